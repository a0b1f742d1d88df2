/- Layer 1, FieldDots: of any lists and modulus, dot products answer as they should. No condition. -/
import Derived.Test.YtdfhkdddlfmceaaX10
import Derived.Test.YtdfhkdddlfmceaaX13
import Derived.Test.YtdfhkdddlfmceaaX14
import Derived.Test.YtdfhkdddlfmceaaPfE
namespace Go.Proofs.Ytdfhkdddlfmceaa.Pure
open Go.RowKit Go.Proofs.YtdfhkdddlfmceaaW.PrintWords Go.Proofs.YtdfhkdddlfmceaaW.PrintLast Go.Proofs.YtdfhkdddlfmceaaW.PrintMore Go.Proofs.Ytdfhkdddlfmceaa.X Go.Proofs.Ytdfhkdddlfmceaa.PfA Go.Proofs.Ytdfhkdddlfmceaa.PfB Go.Proofs.Ytdfhkdddlfmceaa.PfC Go.Proofs.Ytdfhkdddlfmceaa.PfD Go.Proofs.Ytdfhkdddlfmceaa.PfE
set_option linter.unusedVariables false
set_option linter.unusedSimpArgs false
theorem dots_ev (p : Int) (a b : List Int) (cut : Int) (ha : ∀ x ∈ a, W64 x) (hb : ∀ x ∈ b, W64 x) (hc : 0 ≤ cut ∧ cut < 256) : Ev (fun k => affidavitlaw01_FieldDots.f k p a b cut) true := by
  refine Ev.bind ev_awake ?_
  simp only [if_true]
  obtain ⟨n, hn, hn1, hn2, hn3⟩ : ∃ n : Nat, mn (mn (a.length : Int) (b.length : Int)) 60 = (n : Int) ∧ n ≤ a.length ∧ n ≤ b.length ∧ n ≤ 60 := by
    refine ⟨(mn (mn (a.length : Int) (b.length : Int)) 60).toNat, ?_, ?_, ?_, ?_⟩ <;> unfold mn <;> (repeat' split) <;> omega
  rw [hn]
  simp only [Int.toNat_natCast]
  simp only [if_pos (show (0 : Int) ≤ (n : Int) by omega), if_pos (show (n : Int) ≤ (a.length : Int) by omega), if_pos (show (n : Int) ≤ (b.length : Int) by omega)]
  have hA : ∀ x ∈ a.take n, W64 x := fun x hx => ha x (List.mem_of_mem_take hx)
  have hB : ∀ x ∈ b.take n, W64 x := fun x hx => hb x (List.mem_of_mem_take hx)
  have lA : (a.take n).length = n := by simp; omega
  have lB : (b.take n).length = n := by simp; omega
  generalize a.take n = A at *
  generalize b.take n = B at *
  have mx := mx_len
  have bad : Ev (fun k => affidavitlaw01_FieldDots.j0 k p A B cut (n : Int) true) true := Ev.step (f := fun _ => some true) (fun k => by rw [affidavitlaw01_FieldDots.j0, if_pos rfl]) (Ev.now _)
  refine Ev.bind (ev_has p A (by omega)) ?_
  cases h : HasB p A with
  | false => simpa using bad
  | true =>
    simp only [if_true]
    refine Ev.bind (ev_has p B (by omega)) ?_
    cases h' : HasB p B with
    | false => simpa using bad
    | true =>
      obtain ⟨iA, h1, h2⟩ := allIn_of hA h
      obtain ⟨iB, _, _⟩ := allIn_of hB h'
      obtain ⟨c, hcn⟩ := Int.eq_ofNat_of_zero_le hc.1
      subst hcn
      have z : ∀ x, In p (x % p) := fun x => emod_in x (by omega)
      obtain ⟨j, hj, hk⟩ : ∃ j : Nat, j = c % (n + 1) ∧ j ≤ n := ⟨_, rfl, by have := Nat.mod_lt c (show 0 < n + 1 by omega); omega⟩
      have f0 : (0 : Int) ≤ (j : Int) := Int.natCast_nonneg _
      have f1 : (j : Int) ≤ (A.length : Int) := by rw [lA]; exact Int.ofNat_le.2 hk
      have f2 : (j : Int) ≤ (B.length : Int) := by rw [lB]; exact Int.ofNat_le.2 hk
      have f3 : (0 : Int) ≤ (n : Int) := Int.natCast_nonneg _
      have f4 : n ≤ 35184372088832 := Nat.le_trans hn3 (by decide)
      have f5 : ¬ wrap64 ((n : Int) + 1) = 0 := by rw [iw_of (by omega) (by omega)]; omega
      have g1 : A.length ≤ maxLen := by rw [lA]; exact Nat.le_trans hn3 (by decide)
      have g2 : B.length ≤ maxLen := by rw [lB]; exact Nat.le_trans hn3 (by decide)
      have ek : Int.tmod (wrap64 (c : Int)) (wrap64 ((n : Int) + 1)) = (j : Int) := by
        rw [hj, iw_of (n := (c : Int)) (by omega) (by omega), iw_of (n := (n : Int) + 1) (by omega) (by omega), tmod_nn (by omega)]
        push_cast; rfl
      have iT : ∀ (l : List Int), AllIn p l → AllIn p (l.take j) := fun l hl x hx => hl x (List.mem_of_mem_take hx)
      have iD : ∀ (l : List Int), AllIn p l → AllIn p (l.drop j) := fun l hl x hx => hl x (List.mem_of_mem_drop hx)
      refine Ev.step (f := fun k => (field_Dot.f k p A B).bind fun x => (field_Dot.f k p B A).bind fun y => (field_Dot.f k p (A.take j) (B.take j)).bind fun l => (field_Dot.f k p (A.drop j) (B.drop j)).bind fun r => (field_Add.f k p l.1 r.1).bind fun s => (field_Dot.f k p A (List.replicate n 0)).bind fun z => if x.2 = 0 then (if y.2 = 0 then (if x.1 = y.1 then (if x.1 = s.1 then some (z.1 == 0) else some false) else some false) else some false) else some false) (fun k => ?_) ?_
      · rw [affidavitlaw01_FieldDots.j0]
        simp only [Bool.not_true, Bool.false_eq_true, if_false, ek, Int.toNat_natCast]
        rw [if_neg f5]
        simp only [if_pos f0, if_pos f1, if_pos f2, if_pos f3, if_pos f4]
      · clear ek f5
        have d1 := ev_Dot' h1 h2 iA iB (lA.trans lB.symm) g1
        have d2 := ev_Dot' h1 h2 iB iA (lB.trans lA.symm) g2
        have d3 := ev_Dot' h1 h2 (iT A iA) (iT B iB) (by rw [List.length_take, List.length_take, lA, lB]) (Nat.le_trans (List.length_take_le' _ _) g1)
        have d4 := ev_Dot' h1 h2 (iD A iA) (iD B iB) (by rw [List.length_drop, List.length_drop, lA, lB]) (by rw [List.length_drop]; exact Nat.le_trans (Nat.sub_le _ _) g1)
        have d5 := ev_Dot' (b := List.replicate n 0) h1 h2 iA (by intro x hx; rw [(List.mem_replicate.1 hx).2]; exact ⟨by omega, by omega⟩) (by rw [List.length_replicate, lA]) g1
        refine Ev.bind d1 (Ev.bind d2 (Ev.bind d3 (Ev.bind d4 (Ev.bind (ev_Add' h1 h2 (z _) (z _)) (Ev.bind d5 ?_)))))
        have e1 : dotI A B % p = dotI B A % p := by rw [dotI_comm]
        have e2 : dotI A B % p = (dotI (A.take j) (B.take j) % p + dotI (A.drop j) (B.drop j) % p) % p := by rw [am_l, am_r, ← dotI_split]
        simp only [if_true, if_pos e1, if_pos e2]
        rw [dotI_zero, Int.zero_emod]
        exact Ev.now _

theorem FieldDots : affidavitlaw01_FieldDots.Pure := fun p a b c hp ha hb hc => (dots_ev p a b c (w64_all ha.2) (w64_all hb.2) (u8_of hc)).rounds
end Go.Proofs.Ytdfhkdddlfmceaa.Pure
