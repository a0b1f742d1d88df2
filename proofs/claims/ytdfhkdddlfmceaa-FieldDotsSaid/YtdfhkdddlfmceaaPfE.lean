/- Layer 1: the fixed answers of its statements; dot products' parts. -/
import Derived.Test.YtdfhkdddlfmceaaX7
import Derived.Test.YtdfhkdddlfmceaaX11
import Derived.Test.YtdfhkdddlfmceaaPfD
namespace Go.Proofs.Ytdfhkdddlfmceaa.PfE
open Go.RowKit Go.Proofs.YtdfhkdddlfmceaaW.PrintWords Go.Proofs.YtdfhkdddlfmceaaW.PrintLast Go.Proofs.YtdfhkdddlfmceaaW.PrintMore Go.Proofs.Ytdfhkdddlfmceaa.X Go.Proofs.Ytdfhkdddlfmceaa.PfA Go.Proofs.Ytdfhkdddlfmceaa.PfB Go.Proofs.Ytdfhkdddlfmceaa.PfC Go.Proofs.Ytdfhkdddlfmceaa.PfD
set_option linter.unusedVariables false
set_option linter.unusedSimpArgs false

theorem in7 (a : Int) (h : 0 ≤ a) (h' : a < 7) : In 7 a := ⟨h, h'⟩
theorem ev_awake : Ev (fun k => affidavitlaw01_awake.f k) true := by
  refine Ev.bind (ev_Mul' (p := 7) (by decide) (by decide) (in7 5 (by decide) (by decide)) (in7 3 (by decide) (by decide))) ?_
  refine Ev.bind (ev_Inv' (p := 7) (by decide) (by decide) (in7 5 (by decide) (by decide))) ?_
  have hp := ev_Pow 7 3 6 ⟨by decide, by decide⟩ (by decide)
  rw [powR_in (by decide) (by decide) (in7 3 (by decide) (by decide))] at hp
  refine Ev.bind hp ?_
  have hd := ev_Dot' (p := 7) (a := [1, 2]) (b := [3, 4]) (by decide) (by decide) (by intro a ha; simp at ha; rcases ha with rfl | rfl <;> exact in7 _ (by decide) (by decide)) (by intro a ha; simp at ha; rcases ha with rfl | rfl <;> exact in7 _ (by decide) (by decide)) rfl (by rw [mx_len]; decide)
  refine Ev.bind hd ?_
  refine Ev.bind (ev_Inv' (p := 6) (a := 3) (by decide) (by decide) ⟨by decide, by decide⟩) ?_
  have i1 : invR 7 5 = (3, 0) := by
    unfold invR
    rw [if_pos (by decide), finv_spec (x := 3) (in7 3 (by decide) (by decide)) (by decide)]
  have i2 : invR 6 3 = (0, 5) := by
    unfold invR
    rw [if_neg (by decide)]
  rw [i1, i2]
  have h6 := ev_has 7 [6] (by rw [mx_len]; decide)
  have h7 := ev_has 7 [7] (by rw [mx_len]; decide)
  refine Ev.congr (f := fun k => (field_Has.f k 7 [6]).bind fun t => if t = true then (field_Has.f k 7 [7]).bind fun u => some (!u) else some false) (fun k => by simp [dotI]) ?_
  rw [show HasB 7 [6] = true by decide] at h6
  rw [show HasB 7 [7] = false by decide] at h7
  exact Ev.bind h6 (by simpa using Ev.bind h7 (Ev.now (!false)))

theorem mulc (p a b : Int) : a * b % p = b * a % p := by rw [Int.mul_comm]

theorem dotI_comm : ∀ (a b : List Int), dotI a b = dotI b a
  | [], b => by rw [dotI_nil]; cases b <;> rfl
  | x :: a, [] => rfl
  | x :: a, y :: b => by rw [dotI_cons, dotI_cons, dotI_comm a b, Int.mul_comm]
theorem dotI_split : ∀ (k : Nat) (a b : List Int), dotI a b = dotI (a.take k) (b.take k) + dotI (a.drop k) (b.drop k)
  | 0, a, b => by simp [dotI_nil]
  | k + 1, [], b => by simp [dotI_nil]
  | k + 1, x :: a, [] => by simp [dotI_comm _ [], dotI_nil]
  | k + 1, x :: a, y :: b => by
    simp only [List.take_succ_cons, List.drop_succ_cons, dotI_cons]
    rw [dotI_split k a b]; omega
theorem dotI_zero : ∀ (a : List Int) (n : Nat), dotI a (List.replicate n 0) = 0
  | [], n => dotI_nil _
  | x :: a, 0 => rfl
  | x :: a, n + 1 => by rw [List.replicate_succ, dotI_cons, dotI_zero a n]; omega

end Go.Proofs.Ytdfhkdddlfmceaa.PfE
