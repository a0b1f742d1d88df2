/- Layer 1, FieldTurned: of any numbers of any modulus, inverses and quotients answer as they should. No condition. -/
import Derived.Test.YtdfhkdddlfmceaaX20
import Derived.Test.YtdfhkdddlfmceaaPfE
namespace Go.Proofs.Ytdfhkdddlfmceaa.Pure
open Go.RowKit Go.Proofs.YtdfhkdddlfmceaaW.PrintWords Go.Proofs.YtdfhkdddlfmceaaW.PrintLast Go.Proofs.YtdfhkdddlfmceaaW.PrintMore Go.Proofs.Ytdfhkdddlfmceaa.X Go.Proofs.Ytdfhkdddlfmceaa.PfA Go.Proofs.Ytdfhkdddlfmceaa.PfB Go.Proofs.Ytdfhkdddlfmceaa.PfC Go.Proofs.Ytdfhkdddlfmceaa.PfD Go.Proofs.Ytdfhkdddlfmceaa.PfE
set_option linter.unusedVariables false
set_option linter.unusedSimpArgs false
theorem turned_ev (p a b : Int) (ha : W64 a) (hb : W64 b) : Ev (fun k => affidavitlaw01_FieldTurned.f k p a b) true := by
  refine Ev.bind ev_awake ?_
  simp only [if_true]
  refine Ev.bind (ev_has p [a, b] (by rw [mx_len]; simp)) ?_
  cases h : HasB p [a, b] with
  | false => simpa using Ev.now true
  | true =>
    simp only [if_true]
    obtain ⟨ia, ib, h1, h2⟩ := two_in ha hb h
    have z : ∀ x, In p (x % p) := fun x => emod_in x (by omega)
    refine Ev.bind (ev_Inv' h1 h2 ia) (Ev.bind (ev_rGcd p a (by omega) ia.1) ?_)
    unfold invR
    by_cases g : Int.gcd p a = 1
    · obtain ⟨i1, i2⟩ := finv_in h1 h2 ia g
      rw [if_pos g]
      have gg : (((0 : Int) == 0) != (((Int.gcd p a : Nat) : Int) == 1)) = false := by rw [g]; rfl
      simp only [gg, Bool.false_eq_true, if_false, if_true]
      have g2 : Int.gcd p (finv p a) = 1 := gcd_of_inv h1 (x := a) (by rw [Int.mul_comm]; exact i2)
      have hi : invR p (finv p a) = (a, 0) := by
        unfold invR
        rw [if_pos g2, finv_spec (x := a) ia (by rw [Int.mul_comm]; exact i2)]
      have hI := ev_Inv' h1 h2 i1
      rw [hi] at hI
      have hD := ev_Div p b a hb ha
      rw [if_pos (hasB_of h1 h2 (by intro x hx; simp at hx; rcases hx with rfl | rfl; exact ib; exact ia))] at hD
      unfold divR at hD
      rw [if_pos g] at hD
      refine Ev.bind (ev_Mul' h1 h2 ia i1) (Ev.bind hI (Ev.bind hD (Ev.bind (ev_Mul' h1 h2 (z _) ia) ?_)))
      have e1 : b * finv p a % p * a % p = b := by
        rw [mm_l, Int.mul_assoc, Int.mul_comm (finv p a), ← mm_r, i2, Int.mul_one, ib.emod]
      simp only [i2, e1, if_true, beq_self_eq_true]
      exact Ev.now true
    · rw [if_neg g]
      have gg : (((5 : Int) == 0) != (((Int.gcd p a : Nat) : Int) == 1)) = false := by
        have : ¬ ((Int.gcd p a : Nat) : Int) = 1 := by omega
        simp [this]
      simp only [gg, Bool.false_eq_true, if_false]
      exact Ev.now true

theorem FieldTurned : affidavitlaw01_FieldTurned.Pure := fun p a b hp ha hb => (turned_ev p a b (w64_of ha) (w64_of hb)).rounds
end Go.Proofs.Ytdfhkdddlfmceaa.Pure
