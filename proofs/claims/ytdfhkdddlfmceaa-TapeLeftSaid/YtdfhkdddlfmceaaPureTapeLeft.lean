/- Layer 10, TapeLeft: of any right tape and modulus as many numbers can be drawn as words are left that count, and no more. No condition. -/
import Derived.Test.YtdfhkdddlfmceaaX2
import Derived.Test.YtdfhkdddlfmceaaX3
import Derived.Test.YtdfhkdddlfmceaaX4
import Derived.Test.YtdfhkdddlfmceaaX7
import Derived.Test.YtdfhkdddlfmceaaX8
import Derived.Test.YtdfhkdddlfmceaaPfU
namespace Go.Proofs.Ytdfhkdddlfmceaa.Pure
open Go.RowKit Go.Proofs.YtdfhkdddlfmceaaW.PrintWords Go.Proofs.YtdfhkdddlfmceaaW.PrintLast Go.Proofs.YtdfhkdddlfmceaaW.PrintMore Go.Proofs.Ytdfhkdddlfmceaa.X Go.Proofs.Ytdfhkdddlfmceaa.PfA Go.Proofs.Ytdfhkdddlfmceaa.PfC Go.Proofs.Ytdfhkdddlfmceaa.PfT Go.Proofs.Ytdfhkdddlfmceaa.PfU
set_option linter.unusedVariables false
set_option linter.unusedSimpArgs false
attribute [local irreducible] cnt vals mix
theorem left_key (p : Int) (ws V : List Int) (A : Nat) (hw : ∀ x ∈ ws, W64 x) (hp : RightB p = true) (ht : TapeB ws (A : Int) = true) (h60 : V.length ≤ 60) (hso : vals p true (ws.drop A) = V.filter (· != 0)) : ∀ (d i : Nat) (m : Int), V.length - i = d → i ≤ V.length → m = ((V.take i).filter (· != 0)).length → Ev (fun k => affidavitlaw10_TapeLeft.l0 k p V m (i : Int) ws (A : Int)) true := by
  have hcs : cnt p true (ws.drop A) = (V.filter (· != 0)).length := by rw [← vals_len, hso]
  intro d
  induction d with
  | zero =>
    intro i m hd hi hm
    rw [List.take_of_length_le (by omega)] at hm
    have hfl : (V.filter (· != 0)).length ≤ V.length := List.length_filter_le _ _
    generalize (V.filter (· != 0)).length = s at *
    subst hm
    obtain ⟨co, o1, o2, o3, o4⟩ := several_ok (z := true) (n := s) hp ht (by omega) (by omega)
    have hO := ev_Other p ws A s hw
    rw [o1] at hO
    have hO1 := ev_Other p ws A ((s + 1 : Nat) : Int) hw
    rw [several_end hp ht (by omega) (by omega)] at hO1
    have ws1 : wrap64 ((s : Int) + 1) = ((s + 1 : Nat) : Int) := iw_of (by omega) (by omega)
    refine Ev.step (f := fun k => (tape_Other.f k p ws (A : Int) (s : Int)).bind fun x => (tape_Other.f k p ws (A : Int) ((s + 1 : Nat) : Int)).bind fun y => if x.2.2.2 = 0 then (if y.2.2.2 = 9 then some ((x.1.length : Int) == (s : Int)) else some false) else some false) (fun k => by rw [affidavitlaw10_TapeLeft.l0, if_neg (by omega), ws1]) ?_
    refine Ev.bind hO (Ev.bind hO1 ?_)
    simp only [if_true]
    rw [show ((((vals p true (ws.drop A)).take s).length : Int) == (s : Int)) = true by rw [List.length_take, vals_len]; simp; omega]
    exact Ev.now _
  | succ d ih =>
    intro i m hd hi hm
    have hlt : i < V.length := by omega
    have wi : wrap64 ((i : Int) + 1) = ((i + 1 : Nat) : Int) := wadd (n := V.length) (by omega) (by omega) (by omega)
    have hfl : ((V.take i).filter (· != 0)).length ≤ i := Nat.le_trans (List.length_filter_le _ _) (List.length_take_le _ _)
    have htk : V.take (i + 1) = V.take i ++ [V[i]] := by rw [List.take_succ_eq_append_getElem hlt]
    by_cases e : V[i] = 0
    · refine Ev.step (f := fun k => affidavitlaw10_TapeLeft.l0 k p V m ((i + 1 : Nat) : Int) ws (A : Int)) (fun k => ?_) (ih (i + 1) m (by omega) (by omega) ?_)
      · rw [affidavitlaw10_TapeLeft.l0, if_pos (by omega), if_pos (by omega), rd_at V i hlt, if_pos e, wi]
      · rw [htk, List.filter_append]; simp [e, hm]
    · refine Ev.step (f := fun k => affidavitlaw10_TapeLeft.l0 k p V (m + 1) ((i + 1 : Nat) : Int) ws (A : Int)) (fun k => ?_) (ih (i + 1) (m + 1) (by omega) (by omega) ?_)
      · rw [affidavitlaw10_TapeLeft.l0, if_pos (by omega), if_pos (by omega), rd_at V i hlt, if_neg e, wi, iw_of (n := m + 1) (by omega) (by omega)]
      · rw [htk, List.filter_append]; simp [e, hm]
theorem left_start (p : Int) (ws V : List Int) (A : Nat) (hw : ∀ x ∈ ws, W64 x) (hp : RightB p = true) (ht : TapeB ws (A : Int) = true) (h60 : V.length ≤ 60) (hso : vals p true (ws.drop A) = V.filter (· != 0)) : Ev (fun k => affidavitlaw10_TapeLeft.l0 k p V 0 0 ws (A : Int)) true := by
  have h := left_key p ws V A hw hp ht h60 hso V.length 0 0 (Nat.sub_zero _) (Nat.zero_le _) (by simp)
  exact h
theorem tapeLeft_ev (p : Int) (ws : List Int) (a cut : Int) (hw : ∀ x ∈ ws, W64 x) (hc : 0 ≤ cut ∧ cut < 256) : Ev (fun k => affidavitlaw10_TapeLeft.f k p ws a cut) true := by
  refine Ev.bind awake_ev ?_
  simp only [if_true]
  have bad : Ev (fun k => affidavitlaw10_TapeLeft.j0 k p cut true ws a) true := Ev.step (f := fun _ => some true) (fun k => by rw [affidavitlaw10_TapeLeft.j0, if_pos rfl]) (Ev.now _)
  by_cases c0 : (ws.length : Int) > 60
  · simp only [if_pos c0]; exact bad
  simp only [if_neg c0, tape_f, right_f, Option.bind_some]
  cases ht : TapeB ws a with
  | false => simpa using bad
  | true =>
  cases hp : RightB p with
  | false => simpa using bad
  | true =>
  simp only [if_true, Bool.not_true]
  obtain ⟨t1, t2, t3⟩ := (tape_iff ws a).1 ht
  obtain ⟨h1, h2⟩ := (right_iff p).1 hp
  obtain ⟨A, rfl⟩ := Int.eq_ofNat_of_zero_le t2
  obtain ⟨C, rfl⟩ := Int.eq_ofNat_of_zero_le hc.1
  have hle : cnt p false (ws.drop A) ≤ 60 := Nat.le_trans (cnt_le _) (by rw [List.length_drop]; omega)
  obtain ⟨n, hn⟩ : ∃ n, n = cnt p false (ws.drop A) := ⟨_, rfl⟩
  have hL := ev_Left p ws A
  rw [left_eq hp ht, ← hn] at hL
  obtain ⟨c, e1, e2, e3, e4⟩ := several_ok (z := false) (n := n) hp ht (by omega) (by omega)
  have hM := ev_Many p ws A n hw
  rw [e1] at hM
  have hM1 := ev_Many p ws A ((n + 1 : Nat) : Int) hw
  rw [several_end hp ht (by omega) (by omega)] at hM1
  have hall : (vals p false (ws.drop A)).take n = vals p false (ws.drop A) := List.take_of_length_le (by rw [vals_len]; omega)
  rw [hall] at hM e2
  have hvl : (vals p false (ws.drop A)).length = n := by rw [vals_len]; omega
  have e5 : vals p false (ws.drop (A + c)) = [] := by rw [e4]; exact List.drop_of_length_le (by omega)
  have ht2 : TapeB ws ((A + c : Nat) : Int) = true := (tape_iff _ _).2 ⟨t1, by omega, by omega⟩
  have hL2 := ev_Left p ws ((A + c : Nat) : Int)
  rw [left_eq hp ht2, ← vals_len, e5] at hL2
  have hvin : ∀ x ∈ vals p false (ws.drop A), In p x := vals_in (by omega) _
  have hH := ev_has p (vals p false (ws.drop A)) (le60 (by rw [hvl, hn]; exact hle))
  have hHt : HasB p (vals p false (ws.drop A)) = true := (has_iff _ _).2 ⟨fun x hx => (hvin x hx).2, h1, h2⟩
  rw [hHt] at hH
  -- the two parts
  obtain ⟨j, hk, hj⟩ : ∃ j : Nat, j ≤ n ∧ Aside0 (j = C % (n + 1)) := ⟨_, cut_le C n, ⟨rfl⟩⟩
  obtain ⟨cj, f1, f2, f3, f4⟩ := several_ok (z := false) (n := j) hp ht (by omega) (by omega)
  have hMj := ev_Many p ws A j hw
  rw [f1] at hMj
  have ht3 : TapeB ws ((A + cj : Nat) : Int) = true := (tape_iff _ _).2 ⟨t1, by omega, by omega⟩
  have hcj : n - j ≤ cnt p false (ws.drop (A + cj)) := by rw [← vals_len, f4, List.length_drop, hvl]; exact Nat.le_refl _
  obtain ⟨cr, g1, g2, g3, g4⟩ := several_ok (z := false) (n := n - j) hp ht3 (by omega) hcj
  have hMr := ev_Many p ws ((A + cj : Nat) : Int) ((n - j : Nat) : Int) hw
  rw [g1] at hMr
  have hrest : (vals p false (ws.drop (A + cj))).take (n - j) = (vals p false (ws.drop A)).drop j := by rw [f4]; exact List.take_of_length_le (by rw [List.length_drop, hvl]; omega)
  rw [hrest] at hMr g2
  have hsum := tk_split j (n - j) (ws.drop A) _ _ cj cr f2 (by rw [List.drop_drop]; exact g2)
  rw [List.take_append_drop, show j + (n - j) = n by omega, e2] at hsum
  simp only [Option.some.injEq, Prod.mk.injEq, true_and] at hsum
  have hS := ev_same (vals p false (ws.drop A)) (vals p false (ws.drop A)) (le60 (by rw [hvl, hn]; exact hle))
  rw [decide_eq_true rfl] at hS
  have hn60 : n ≤ 60 := hn ▸ hle
  have hv60 : (vals p false (ws.drop A)).length ≤ 60 := hvl ▸ hn60
  have wn1 := add_w n (Nat.le_trans hn60 (by decide))
  have wn2 := sub_w n j hk hn60
  have lj := take60 j hv60
  have lr := drop60 j hv60
  -- the numbers but 0
  have hso := vals_some (p := p) (ws.drop A)
  generalize hV : vals p false (ws.drop A) = V at *
  have k0 : Ev (fun k => affidavitlaw10_TapeLeft.l0 k p V 0 0 ws (A : Int)) true := left_start p ws V A hw hp ht hv60 hso
  -- all together
  refine Ev.step (f := fun k => (tape_Left.f k p ws (A : Int)).bind fun t => (tape_Many.f k p ws (A : Int) t).bind fun x => (tape_Many.f k p ws (A : Int) (wrap64 (t + 1))).bind fun y => if x.2.2.2 = 0 then (if y.2.2.2 = 9 then (if (x.1.length : Int) = t then (field_Has.f k p x.1).bind fun h => if h = true then (tape_Left.f k p x.2.1 x.2.2.1).bind fun u => affidavitlaw10_TapeLeft.j1 k p (C : Int) t x.1 (u != 0) ws (A : Int) x.2.1 x.2.2.1 else affidavitlaw10_TapeLeft.j1 k p (C : Int) t x.1 true ws (A : Int) x.2.1 x.2.2.1 else affidavitlaw10_TapeLeft.j1 k p (C : Int) t x.1 true ws (A : Int) x.2.1 x.2.2.1) else affidavitlaw10_TapeLeft.j1 k p (C : Int) t x.1 true ws (A : Int) x.2.1 x.2.2.1) else affidavitlaw10_TapeLeft.j1 k p (C : Int) t x.1 true ws (A : Int) x.2.1 x.2.2.1) (fun k => by rw [affidavitlaw10_TapeLeft.j0, if_neg (by decide)]) ?_
  refine Ev.bind hL (Ev.bind hM ?_)
  rw [wn1]
  refine Ev.bind hM1 ?_
  simp only [if_true, hvl]
  refine Ev.bind hH ?_
  simp only [if_true]
  refine Ev.bind hL2 ?_
  refine Ev.step (f := fun k => (tape_Many.f k p ws (A : Int) (j : Int)).bind fun x => (tape_Many.f k p x.2.1 x.2.2.1 ((n - j : Nat) : Int)).bind fun y => if x.2.2.2 = 0 then (if y.2.2.2 = 0 then (if y.2.2.1 = ((A + c : Nat) : Int) then (if x.1.length < 17592186044416 then (if (x.1).length + y.1.length < 17592186044416 then (affidavitref01_Same.f k (x.1 ++ y.1) V).bind fun t => affidavitlaw10_TapeLeft.j2 k p V (!t) ws (A : Int) else none) else none) else affidavitlaw10_TapeLeft.j2 k p V true ws (A : Int)) else affidavitlaw10_TapeLeft.j2 k p V true ws (A : Int)) else affidavitlaw10_TapeLeft.j2 k p V true ws (A : Int)) (fun k => ?_) ?_
  · rw [affidavitlaw10_TapeLeft.j1, if_neg (by simp), if_neg (show ¬ wrap64 ((n : Int) + 1) = 0 by rw [wn1]; exact ne_succ n), tmod_cut C n j (lt_256 hc.2) hn60 hj.out, wn2]
    simp only [Option.bind_some, List.nil_append, List.length_nil, Nat.zero_add]
  refine Ev.bind hMj (Ev.bind hMr ?_)
  simp only [if_true, List.take_append_drop, show A + cj + cr = A + c by omega, if_pos (lt44 lj), if_pos (lt44b lj lr)]
  refine Ev.bind hS ?_
  refine Ev.step (f := fun k => affidavitlaw10_TapeLeft.l0 k p V 0 0 ws (A : Int)) (fun k => by rw [affidavitlaw10_TapeLeft.j2, if_neg (by decide)]) ?_
  exact k0
theorem TapeLeft : affidavitlaw10_TapeLeft.Pure := fun p ws a c hp hw ha hc => (tapeLeft_ev p ws a c (w64_all hw.2) (u8_of hc)).rounds
end Go.Proofs.Ytdfhkdddlfmceaa.Pure
