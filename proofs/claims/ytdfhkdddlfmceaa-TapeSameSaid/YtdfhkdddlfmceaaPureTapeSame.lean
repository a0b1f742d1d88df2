/- Layer 10, TapeSame: what is drawn of a right tape hangs on the words from its place on alone, and not on words that don't count. No condition. -/
import Derived.Test.YtdfhkdddlfmceaaX2
import Derived.Test.YtdfhkdddlfmceaaX3
import Derived.Test.YtdfhkdddlfmceaaX4
import Derived.Test.YtdfhkdddlfmceaaX6
import Derived.Test.YtdfhkdddlfmceaaPfU
namespace Go.Proofs.Ytdfhkdddlfmceaa.Pure
open Go.RowKit Go.Proofs.YtdfhkdddlfmceaaW.PrintWords Go.Proofs.YtdfhkdddlfmceaaW.PrintLast Go.Proofs.YtdfhkdddlfmceaaW.PrintMore Go.Proofs.Ytdfhkdddlfmceaa.X Go.Proofs.Ytdfhkdddlfmceaa.PfA Go.Proofs.Ytdfhkdddlfmceaa.PfC Go.Proofs.Ytdfhkdddlfmceaa.PfT Go.Proofs.Ytdfhkdddlfmceaa.PfU
set_option linter.unusedVariables false
set_option linter.unusedSimpArgs false
attribute [local irreducible] cnt vals mix
theorem several_one {p : Int} {ws us : List Int} {a b n : Nat} (hp : RightB p = true) (ht : TapeB ws a = true) (hu : TapeB us b = true) (hn : n ≤ 8192) (h : n ≤ cnt p false (ws.drop a)) (he : ∃ r, us.drop b = ws.drop a ++ r) :
    ∃ c, severalR p false ws a n = ((vals p false (ws.drop a)).take n, ws, ((a + c : Nat) : Int), 0) ∧ severalR p false us b n = ((vals p false (ws.drop a)).take n, us, ((b + c : Nat) : Int), 0) := by
  obtain ⟨c, h1, h2, _⟩ := several_ok (z := false) hp ht hn h
  obtain ⟨r, hr⟩ := he
  refine ⟨c, h1, ?_⟩
  have h3 := tk_more n _ r _ h2
  rw [← hr] at h3
  unfold severalR manyR
  rw [hp, hu, if_pos (by simp; omega)]
  simp only [Int.toNat_natCast, h3]
theorem lt44c {a b : List Int} {n : Nat} (h : a.length ≤ 60) (h' : b.length ≤ 60) (h2 : n ≤ 60) : (a ++ b).length + n < 17592186044416 := by rw [List.length_append]; omega
theorem nat60 {n : Nat} (h : ¬ (n : Int) > 60) : n ≤ 60 := by omega
theorem shift_eq (a b c : Nat) : (wrap64 (((a + c : Nat) : Int) - (a : Int)) != wrap64 (((b + c : Nat) : Int) - (b : Int))) = false := by
  rw [show ((a + c : Nat) : Int) - (a : Int) = (c : Int) by omega, show ((b + c : Nat) : Int) - (b : Int) = (c : Int) by omega]
  simp
theorem mix_len2 (c : Int) : ∀ l : List Int, (mix c l).length = 2 * l.length := by
  intro l; induction l with
  | nil => rw [mix_nil]; rfl
  | cons x l ih => rw [mix_cons]; simp [ih]; omega
theorem same_key (p : Int) (ws V : List Int) (A j : Nat) (hw : ∀ x ∈ ws, W64 x) (hp : RightB p = true) (t3 : A ≤ ws.length) (h60 : ws.length ≤ 60) (hk : j ≤ cnt p false (ws.drop A)) (hj8 : j ≤ 8192) (hV : (vals p false (ws.drop A)).take j = V) (hS : Ev (fun k => affidavitref01_Same.f k V V) true) (hcn : cntB p 18446744073709551615 = false) : ∀ (d i : Nat), ws.length - i = d → A ≤ i → i ≤ ws.length → Ev (fun k => affidavitlaw10_TapeSame.l0 k p (j : Int) V (mix 18446744073709551615 ((ws.drop A).take (i - A))) (i : Int) ws (A : Int)) true := by
  intro d
  induction d with
  | zero =>
    intro i hd hi0 hi
    rw [List.take_of_length_le (by rw [List.length_drop]; omega)]
    have hml : (mix 18446744073709551615 (ws.drop A)).length ≤ 120 := by
      have : ∀ l : List Int, (mix 18446744073709551615 l).length = 2 * l.length := by
        intro l; induction l with
        | nil => rw [mix_nil]; rfl
        | cons x l ih => rw [mix_cons]; simp [ih]; omega
      rw [this, List.length_drop]; omega
    have hmw : ∀ x ∈ mix 18446744073709551615 (ws.drop A), W64 x := by
      intro x hx
      obtain ⟨w, hw1, hw2⟩ := mix_mem hx
      rcases hw2 with rfl | rfl
      · exact ⟨by decide, by decide⟩
      · exact hw _ (List.mem_of_mem_drop hw1)
    have htm : TapeB (mix 18446744073709551615 (ws.drop A)) ((0 : Nat) : Int) = true := (tape_iff _ _).2 ⟨by omega, by omega, by omega⟩
    have hvm := vals_mix (p := p) (z := false) hcn (ws.drop A)
    obtain ⟨c', q1, _⟩ := several_ok (z := false) (n := j) hp htm hj8 (by rw [List.drop_zero, ← vals_len, hvm, vals_len]; exact hk)
    have m3 := ev_Many p (mix 18446744073709551615 (ws.drop A)) ((0 : Nat) : Int) j hmw
    rw [q1, List.drop_zero, hvm, hV] at m3
    refine Ev.step (f := fun k => (tape_Many.f k p (mix 18446744073709551615 (ws.drop A)) 0 (j : Int)).bind fun x => if x.2.2.2 = 0 then (affidavitref01_Same.f k x.1 V).bind fun t => some t else some false) (fun k => by rw [affidavitlaw10_TapeSame.l0, if_neg (by omega)]) ?_
    refine Ev.bind m3 ?_
    simp only [if_true]
    exact Ev.bind hS (Ev.now _)
  | succ d ih =>
    intro i hd hi0 hi
    have hlt : i < ws.length := by omega
    have wi : wrap64 ((i : Int) + 1) = ((i + 1 : Nat) : Int) := wadd (n := ws.length) (by omega) (by omega) (by omega)
    have e5 : mix 18446744073709551615 ((ws.drop A).take (i + 1 - A)) = mix 18446744073709551615 ((ws.drop A).take (i - A)) ++ [18446744073709551615, ws[i]] := by
      rw [show i + 1 - A = (i - A) + 1 by omega, List.take_succ_eq_append_getElem (by rw [List.length_drop]; omega)]
      rw [mix_app]
      simp [mix_cons, mix_nil, show A + (i - A) = i by omega]
    have hml : (mix 18446744073709551615 ((ws.drop A).take (i - A))).length < 1000 := by
      have : ∀ l : List Int, (mix 18446744073709551615 l).length = 2 * l.length := by
        intro l; induction l with
        | nil => rw [mix_nil]; rfl
        | cons x l ih => rw [mix_cons]; simp [ih]; omega
      have h9 := List.length_take_le (i - A) (ws.drop A)
      rw [this]; omega
    have := ih (i + 1) (by omega) (by omega) (by omega)
    rw [e5] at this
    refine Ev.step (fun k => ?_) this
    rw [affidavitlaw10_TapeSame.l0, if_pos (by omega), if_pos (by omega), rd_at ws i hlt, wi]
    simp only [Option.bind_some, List.length_cons, List.length_nil]
    rw [if_pos (by omega)]
theorem tapeSame_ev (p : Int) (ws : List Int) (a : Int) (ah be : List Int) (n : Int) (hw : ∀ x ∈ ws, W64 x) (ha : ∀ x ∈ ah, W64 x) (hb : ∀ x ∈ be, W64 x) (hn : 0 ≤ n ∧ n < 256) : Ev (fun k => affidavitlaw10_TapeSame.f k p ws a ah be n) true := by
  refine Ev.bind awake_ev ?_
  simp only [if_true]
  have bad : Ev (fun k => affidavitlaw10_TapeSame.j0 k p ah be n true ws a) true := Ev.step (f := fun _ => some true) (fun k => by rw [affidavitlaw10_TapeSame.j0, if_pos rfl]) (Ev.now _)
  by_cases c0 : (ws.length : Int) > 60
  · simp only [if_pos c0]; exact bad
  by_cases c1 : (ah.length : Int) > 60
  · simp only [if_neg c0, if_pos c1]; exact bad
  by_cases c2 : (be.length : Int) > 60
  · simp only [if_neg c0, if_neg c1, if_pos c2]; exact bad
  simp only [if_neg c0, if_neg c1, if_neg c2, tape_f, right_f, Option.bind_some]
  cases ht : TapeB ws a with
  | false => simpa using bad
  | true =>
  cases hp : RightB p with
  | false => simpa using bad
  | true =>
  simp only [if_true, Bool.not_true]
  obtain ⟨t1, t2, t3⟩ := (tape_iff ws a).1 ht
  obtain ⟨h1, h2⟩ := (right_iff p).1 hp
  obtain ⟨A, rfl⟩ := Int.eq_ofNat_of_zero_le t2
  obtain ⟨C, rfl⟩ := Int.eq_ofNat_of_zero_le hn.1
  have hL := ev_Left p ws A
  rw [left_eq hp ht] at hL
  have hle : cnt p false (ws.drop A) ≤ 60 := Nat.le_trans (cnt_le _) (by rw [List.length_drop]; omega)
  generalize hN : cnt p false (ws.drop A) = N at *
  obtain ⟨j, hk, hj⟩ : ∃ j : Nat, j ≤ N ∧ Aside0 (j = C % (N + 1)) := ⟨_, cut_le C N, ⟨rfl⟩⟩
  have wn1 : wrap64 ((N : Int) + 1) = ((N + 1 : Nat) : Int) := iw_of (by omega) (by omega)
  obtain ⟨us, hus⟩ : ∃ us, us = ah ++ ws.drop A ++ be := ⟨_, rfl⟩
  have husl : us.length = ah.length + (ws.length - A) + be.length := by rw [hus, List.length_append, List.length_append, List.length_drop]
  have hud : us.drop ah.length = ws.drop A ++ be := by rw [hus, List.append_assoc, List.drop_left]
  have hu : TapeB us (ah.length : Int) = true := (tape_iff _ _).2 ⟨by omega, by omega, by omega⟩
  have huw : ∀ x ∈ us, W64 x := by
    intro x hx
    rw [hus] at hx
    simp only [List.mem_append] at hx
    rcases hx with (hx | hx) | hx
    · exact ha x hx
    · exact hw x (List.mem_of_mem_drop hx)
    · exact hb x hx
  obtain ⟨c, e1, e2⟩ := several_one (n := j) hp ht hu (by omega) (by omega) ⟨be, hud⟩
  have m1 := ev_Many p ws A j hw
  rw [e1] at m1
  have m2 := ev_Many p us (ah.length : Int) j huw
  rw [e2] at m2
  generalize hV : (vals p false (ws.drop A)).take j = V at *
  have hVl : V.length ≤ 60 := by rw [← hV]; exact Nat.le_trans (List.length_take_le _ _) (by omega)
  have hS := ev_same V V (le60 hVl)
  rw [decide_eq_true rfl] at hS
  -- words that don't count, slipped in
  have h60 : ws.length ≤ 60 := nat60 c0
  have hN60 : N ≤ 60 := hle
  have l1 : ah.length ≤ 60 := nat60 c1
  have l2 : be.length ≤ 60 := nat60 c2
  have tA : A ≤ ws.length := Int.ofNat_le.1 t3
  have lA : (ws.drop A).length ≤ 60 := drop60 A h60
  refine Ev.step (f := fun k => (tape_Left.f k p ws (A : Int)).bind fun t => if (wrap64 (t + 1)) = 0 then none else (tape_Many.f k p ws (A : Int) (Int.tmod (wrap64 (C : Int)) (wrap64 (t + 1)))).bind fun x => (tape_Many.f k p us (ah.length : Int) (Int.tmod (wrap64 (C : Int)) (wrap64 (t + 1)))).bind fun y => if x.2.2.2 = 0 then (if y.2.2.2 = 0 then (affidavitref01_Same.f k x.1 y.1).bind fun s => if s = true then affidavitlaw10_TapeSame.j1 k p (Int.tmod (wrap64 (C : Int)) (wrap64 (t + 1))) x.1 ((wrap64 (y.2.2.1 - (ah.length : Int))) != (wrap64 (x.2.2.1 - (A : Int)))) ws (A : Int) else affidavitlaw10_TapeSame.j1 k p (Int.tmod (wrap64 (C : Int)) (wrap64 (t + 1))) x.1 true ws (A : Int) else affidavitlaw10_TapeSame.j1 k p (Int.tmod (wrap64 (C : Int)) (wrap64 (t + 1))) x.1 true ws (A : Int)) else affidavitlaw10_TapeSame.j1 k p (Int.tmod (wrap64 (C : Int)) (wrap64 (t + 1))) x.1 true ws (A : Int)) (fun k => ?_) ?_
  · rw [affidavitlaw10_TapeSame.j0, if_neg (by decide), hus]
    simp only [Option.bind_some, List.nil_append, List.length_nil, Nat.zero_add, Int.toNat_natCast, if_pos t2, if_pos t3, if_pos (lt44 l1), if_pos (lt44b l1 lA), if_pos (lt44c l1 lA l2)]
  refine Ev.bind hL ?_
  have hne : ¬ wrap64 ((N : Int) + 1) = 0 := by rw [wn1]; exact ne_succ N
  have ek := tmod_cut C N j (lt_256 hn.2) hN60 hj.out
  simp only [if_neg hne, ek]
  clear ek
  refine Ev.bind m1 (Ev.bind m2 ?_)
  simp only [if_true]
  refine Ev.bind hS ?_
  have e6 := shift_eq ah.length A c
  simp only [if_true, e6]
  cases hcn : cntB p 18446744073709551615 with
  | true => exact Ev.step (f := fun _ => some true) (fun k => by rw [affidavitlaw10_TapeSame.j1, if_neg (by decide), counts_f, hcn]; rfl) (Ev.now _)
  | false =>
    have := same_key p ws V A j hw hp tA h60 (by rw [hN]; exact hk) (Nat.le_trans hk (Nat.le_trans hN60 (by decide))) hV hS hcn (ws.length - A) A rfl (Nat.le_refl _) tA
    rw [Nat.sub_self, List.take_zero, mix_nil] at this
    exact Ev.step (fun k => by rw [affidavitlaw10_TapeSame.j1, if_neg (by decide), counts_f, hcn]; rfl) this
theorem TapeSame : affidavitlaw10_TapeSame.Pure := fun p ws a ah be n hp hw ha hah hbe hn => (tapeSame_ev p ws a ah be n (w64_all hw.2) (w64_all hah.2) (w64_all hbe.2) (u8_of hn)).rounds
end Go.Proofs.Ytdfhkdddlfmceaa.Pure
