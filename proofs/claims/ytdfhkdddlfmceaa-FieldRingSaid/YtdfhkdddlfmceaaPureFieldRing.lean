/- Layer 1, FieldRing: of any numbers of any modulus, sums and products answer as a ring's do. No condition. -/
import Derived.Test.YtdfhkdddlfmceaaX18
import Derived.Test.YtdfhkdddlfmceaaPfE
namespace Go.Proofs.Ytdfhkdddlfmceaa.Pure
open Go.RowKit Go.Proofs.YtdfhkdddlfmceaaW.PrintWords Go.Proofs.YtdfhkdddlfmceaaW.PrintLast Go.Proofs.YtdfhkdddlfmceaaW.PrintMore Go.Proofs.Ytdfhkdddlfmceaa.X Go.Proofs.Ytdfhkdddlfmceaa.PfA Go.Proofs.Ytdfhkdddlfmceaa.PfB Go.Proofs.Ytdfhkdddlfmceaa.PfC Go.Proofs.Ytdfhkdddlfmceaa.PfD Go.Proofs.Ytdfhkdddlfmceaa.PfE
set_option linter.unusedVariables false
set_option linter.unusedSimpArgs false
theorem ring_ev (p a b c : Int) (ha : W64 a) (hb : W64 b) (hc : W64 c) : Ev (fun k => affidavitlaw01_FieldRing.f k p a b c) true := by
  refine Ev.bind ev_awake ?_
  simp only [if_true]
  refine Ev.bind (ev_has p [a, b, c] (by rw [mx_len]; simp)) ?_
  cases h : HasB p [a, b, c] with
  | false => simpa using Ev.now true
  | true =>
    simp only [if_true]
    obtain ⟨hl, h1, h2⟩ := (has_iff _ _).1 h
    have ia : In p a := ⟨ha.1, hl a (by simp)⟩
    have ib : In p b := ⟨hb.1, hl b (by simp)⟩
    have ic : In p c := ⟨hc.1, hl c (by simp)⟩
    have z : ∀ x, In p (x % p) := fun x => emod_in x (by omega)
    refine Ev.bind (ev_Add' h1 h2 ia ib) (Ev.bind (ev_Add' h1 h2 ib ia) (Ev.bind (ev_Add' h1 h2 (z _) ic) (Ev.bind (ev_Add' h1 h2 ib ic) (Ev.bind (ev_Add' h1 h2 ia (z _)) (Ev.bind (ev_Mul' h1 h2 ia ib) (Ev.bind (ev_Mul' h1 h2 ib ia) (Ev.bind (ev_Mul' h1 h2 (z _) ic) (Ev.bind (ev_Mul' h1 h2 ib ic) (Ev.bind (ev_Mul' h1 h2 ia (z _)) (Ev.bind (ev_Mul' h1 h2 ia ic) (Ev.bind (ev_Mul' h1 h2 ia (z _)) (Ev.bind (ev_Add' h1 h2 (z _) (z _)) (Ev.bind (ev_Sub' h1 h2 (z _) ib) ?_)))))))))))))
    have e1 : (a + b) % p = (b + a) % p := by rw [Int.add_comm]
    have e2 : ((a + b) % p + c) % p = (a + (b + c) % p) % p := by rw [am_l, am_r, Int.add_assoc]
    have e3 : a * b % p = b * a % p := mulc _ _ _
    have e4 : a * b % p * c % p = a * (b * c % p) % p := by rw [mm_l, mm_r, Int.mul_assoc]
    have e5 : a * ((b + c) % p) % p = (a * b % p + a * c % p) % p := by rw [mm_r, am_l, am_r, Int.mul_add]
    have e6 : ((a + b) % p - b) % p = a := by rw [sm_l, show a + b - b = a by omega, ia.emod]
    simp only [if_pos e1, if_pos e2, if_pos e3, if_pos e4, if_pos e5, if_pos e6]
    have hh := ev_has p [(a + b) % p, ((a + b) % p + c) % p, a * b % p, a * b % p * c % p, a * ((b + c) % p) % p, ((a + b) % p - b) % p] (by rw [mx_len]; simp)
    rw [hasB_of h1 h2 (by intro x hx; simp only [List.mem_cons, List.not_mem_nil, or_false] at hx; rcases hx with rfl | rfl | rfl | rfl | rfl | rfl <;> exact z _)] at hh
    exact Ev.bind hh (Ev.now true)

theorem FieldRing : affidavitlaw01_FieldRing.Pure := fun p a b c hp ha hb hc => (ring_ev p a b c (w64_of ha) (w64_of hb) (w64_of hc)).rounds
end Go.Proofs.Ytdfhkdddlfmceaa.Pure
