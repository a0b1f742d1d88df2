/- Layer 1, FieldPowers: of any number and modulus, powers answer as powers do. No condition. -/
import Derived.Test.YtdfhkdddlfmceaaX10
import Derived.Test.YtdfhkdddlfmceaaX12
import Derived.Test.YtdfhkdddlfmceaaPfE
namespace Go.Proofs.Ytdfhkdddlfmceaa.Pure
open Go.RowKit Go.Proofs.YtdfhkdddlfmceaaW.PrintWords Go.Proofs.YtdfhkdddlfmceaaW.PrintLast Go.Proofs.YtdfhkdddlfmceaaW.PrintMore Go.Proofs.Ytdfhkdddlfmceaa.X Go.Proofs.Ytdfhkdddlfmceaa.PfA Go.Proofs.Ytdfhkdddlfmceaa.PfB Go.Proofs.Ytdfhkdddlfmceaa.PfC Go.Proofs.Ytdfhkdddlfmceaa.PfD Go.Proofs.Ytdfhkdddlfmceaa.PfE
set_option linter.unusedVariables false
set_option linter.unusedSimpArgs false
theorem powers_ev (p a n m : Int) (ha : W64 a) (hn : 0 ≤ n ∧ n < 4294967296) (hm : 0 ≤ m ∧ m < 4294967296) : Ev (fun k => affidavitlaw01_FieldPowers.f k p a n m) true := by
  refine Ev.bind ev_awake ?_
  simp only [if_true]
  refine Ev.bind (ev_has p [a] (by rw [mx_len]; simp)) ?_
  cases h : HasB p [a] with
  | false => simpa using Ev.now true
  | true =>
    simp only [if_true]
    obtain ⟨ia, h1, h2⟩ := has1 ha h
    have z : ∀ x, In p (x % p) := fun x => emod_in x (by omega)
    have zw : ∀ x, W64 (x % p) := fun x => (z x).w64 (by omega)
    obtain ⟨N, rfl⟩ := Int.eq_ofNat_of_zero_le hn.1
    obtain ⟨M, rfl⟩ := Int.eq_ofNat_of_zero_le hm.1
    have hmul := mul_bd (a := (N : Int)) (b := (M : Int)) (m := 4294967295) (n := 4294967295) hn.1 hm.1 (by omega) (by omega)
    rw [uw_of (n := (N : Int)) (by omega) (by omega), uw_of (n := (M : Int)) (by omega) (by omega), uw_of (n := (N : Int) + M) (by omega) (by omega), uw_of (n := (N : Int) * M) hmul.1 (by omega)]
    have pw : ∀ (b : Int) (j : Nat), In p b → j < 18446744073709551616 → Ev (fun k => field_Pow.f k p b (j : Int)) (b ^ j % p, 0) := by
      intro b j hb hj
      have := ev_Pow p b j (hb.w64 (by omega)) hj
      rwa [powR_in h1 h2 hb] at this
    have hM2 : N * M < 18446744073709551616 := by
      have : ((N * M : Nat) : Int) = (N : Int) * M := by push_cast; rfl
      omega
    have q1 := pw a N ia (by omega)
    have q2 := pw a M ia (by omega)
    have q3 := pw a (N + M) ia (by omega)
    have q4 := pw (a ^ N % p) M (z _) (by omega)
    have q5 := pw a (N * M) ia hM2
    have q6 := pw a 0 ia (by omega)
    have q7 := pw a 1 ia (by omega)
    rw [Int.natCast_add] at q3
    rw [Int.natCast_mul] at q5
    refine Ev.bind q1 (Ev.bind q2 (Ev.bind (ev_Mul' h1 h2 (z _) (z _)) (Ev.bind q3 (Ev.bind q4 (Ev.bind q5 (Ev.bind q6 (Ev.bind q7 ?_)))))))
    have e1 : a ^ N % p * (a ^ M % p) % p = a ^ (N + M) % p := by rw [mm_l, mm_r, Int.pow_add]
    have e2 : (a ^ N % p) ^ M % p = a ^ (N * M) % p := by rw [pm, Int.pow_mul]
    have e3 : a ^ 0 % p = 1 := by rw [Int.pow_zero]; exact Int.emod_eq_of_lt (by omega) (by omega)
    have e4 : a ^ 1 % p = a := by rw [Int.pow_one, ia.emod]
    simp only [if_pos e1, if_pos e2, if_pos e3, e4, beq_self_eq_true]
    exact Ev.now true

theorem FieldPowers : affidavitlaw01_FieldPowers.Pure := fun p a n m hp ha hn hm => (powers_ev p a n m (w64_of ha) (u32_of hn) (u32_of hm)).rounds
end Go.Proofs.Ytdfhkdddlfmceaa.Pure
