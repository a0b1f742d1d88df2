/- A call whose answer is a row of its own, as a call that answers data. Conditions: none; a lemma. -/
import Derived.Test.YtkhjfphenflefaaWWords
namespace Go.Proofs.Ytkhjfphenflefaa.TM
open Go
set_option linter.unusedVariables false
set_option linter.defProp false
set_option linter.unusedSimpArgs false
theorem CallsO.toP {P : Program} {g : FuncId} {args : List PV} {n : Nat} {cs : List IV} (h : CallsO P g args 1 n n cs) : CallsP P g args (.i (.l n cs)) := by
  intro base
  obtain ⟨b, hu, h1, h2, h3⟩ := h base
  refine ⟨_, _, h1, ?_⟩
  have nl : cs.take n = cs := List.take_of_length_le (by omega)
  simp [lowerT, lowerA, lowerC, h2, h3, nl]
theorem CallsP.mk' {P : Program} {g : FuncId} {args : List PV} {v : PV} (h : ∀ base, ∃ u hu, CallR P base g args Heap.none u hu ∧ lowerT hu u = some v) : CallsP P g args v := h
end Go.Proofs.Ytkhjfphenflefaa.TM
