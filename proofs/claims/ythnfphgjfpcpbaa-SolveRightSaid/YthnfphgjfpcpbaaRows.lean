/-
  No cell of these rows narrows 'for every input' (looked for: loops, veiled, ifaces, maps, wideKeys, modest, calm, conditions, laid).
  DERIVED. THE GIVEN ROWS OF THIS SEAT. 10 by the template 'for every input the law returns true; each argument reads behind the call as it read before'; 0 by the template 'total and deterministic' (their statements: YthnfphgjfpcpbaaTotals.lean).
  GIVEN WITH THE SEED: the statements are not yours to turn. If you find one false, say at which input.
  Laid BY PROGRAM, IN A SANDBOX (cutbox-rows.mjs): the forced cells as the released guide's own fill.sh prints them over the translation ef27af8bc845c645… (all of the seat's roots in one cut). By AI agents, Wed Nov 11 2026. No macro, syntax, notation, axiom, sorry.
-/
import Derived.Test.YthnfphgjfpcpbaaChecked
import GoSem.Claim
import GoSem.ClaimJoined
import GoSem.ClaimMapViews
import Derived.JoinedTies
import Derived.KernelRfl
namespace Go.Proofs.Ythnfphgjfpcpbaa
/- THE CELL 'sum', in the pinned program and in every row, IS THE sha256 OF THE DUMP (.gsa) THAT YthnfphgjfpcpbaaProg.lean LOADS. Nothing in Lean hashes anything: it is a label: what it is worth is what the hold of that sum in a sandbox is worth. -/
noncomputable def Try.pinned : Pinned := { name := "ythnfphgjfpcpbaa", sum := "ef27af8bc845c64532076692f4f08d18f34557f3cf05039626f1f235662468d8", checked := Try.checked }
namespace Rows
def none {H : Type} : Left H := { results := [], args := [] }

/-- 'affidavitlaw08.SolveRight': WHATEVER THE INPUT: true; the input reads as it did. -/
def solveRightSpec : ChangeSpec := { name := "solveRight", fn := fun _ => fun
  | [d1, d2, d3, d4] => { results := [.lit (.bool true)], args := [d1, d2, d3, d4] }
  | _ => none }
def solveRightRow : OpenClaim := { program := "ythnfphgjfpcpbaa", sum := "ef27af8bc845c64532076692f4f08d18f34557f3cf05039626f1f235662468d8", func := "affidavit/affidavitlaw08.SolveRight", spec := "solveRight", unfollowed := true, recurses := true, named := ["math/bits.divideError", "math/bits.overflowError"], apart := false }
def SolveRightSaid : Prop := solveRightRow.holds Try.pinned (OpenSpec.ofChange solveRightSpec)

/-- ITS FALSE NEIGHBOUR: 'it returns false'. Refute it at one input. -/
def solveRightWrong : ChangeSpec := { name := "solveRight", fn := fun _ => fun
  | [d1, d2, d3, d4] => { results := [.lit (.bool false)], args := [d1, d2, d3, d4] }
  | _ => none }
def SolveRightWrongFalsely : Prop := solveRightRow.holds Try.pinned (OpenSpec.ofChange solveRightWrong)

/-- 'affidavitlaw08.SolveMore': WHATEVER THE INPUT: true; the input reads as it did. -/
def solveMoreSpec : ChangeSpec := { name := "solveMore", fn := fun _ => fun
  | [d1, d2, d3, d4] => { results := [.lit (.bool true)], args := [d1, d2, d3, d4] }
  | _ => none }
def solveMoreRow : OpenClaim := { program := "ythnfphgjfpcpbaa", sum := "ef27af8bc845c64532076692f4f08d18f34557f3cf05039626f1f235662468d8", func := "affidavit/affidavitlaw08.SolveMore", spec := "solveMore", unfollowed := true, recurses := true, named := ["math/bits.divideError", "math/bits.overflowError"], apart := false }
def SolveMoreSaid : Prop := solveMoreRow.holds Try.pinned (OpenSpec.ofChange solveMoreSpec)

/-- ITS FALSE NEIGHBOUR: 'it returns false'. Refute it at one input. -/
def solveMoreWrong : ChangeSpec := { name := "solveMore", fn := fun _ => fun
  | [d1, d2, d3, d4] => { results := [.lit (.bool false)], args := [d1, d2, d3, d4] }
  | _ => none }
def SolveMoreWrongFalsely : Prop := solveMoreRow.holds Try.pinned (OpenSpec.ofChange solveMoreWrong)

/-- 'affidavitlaw08.SolveOr': WHATEVER THE INPUT: true; the input reads as it did. -/
def solveOrSpec : ChangeSpec := { name := "solveOr", fn := fun _ => fun
  | [d1, d2, d3, d4] => { results := [.lit (.bool true)], args := [d1, d2, d3, d4] }
  | _ => none }
def solveOrRow : OpenClaim := { program := "ythnfphgjfpcpbaa", sum := "ef27af8bc845c64532076692f4f08d18f34557f3cf05039626f1f235662468d8", func := "affidavit/affidavitlaw08.SolveOr", spec := "solveOr", unfollowed := true, recurses := true, named := ["math/bits.divideError", "math/bits.overflowError"], apart := false }
def SolveOrSaid : Prop := solveOrRow.holds Try.pinned (OpenSpec.ofChange solveOrSpec)

/-- ITS FALSE NEIGHBOUR: 'it returns false'. Refute it at one input. -/
def solveOrWrong : ChangeSpec := { name := "solveOr", fn := fun _ => fun
  | [d1, d2, d3, d4] => { results := [.lit (.bool false)], args := [d1, d2, d3, d4] }
  | _ => none }
def SolveOrWrongFalsely : Prop := solveOrRow.holds Try.pinned (OpenSpec.ofChange solveOrWrong)

/-- 'affidavitlaw08.SolveKernels': WHATEVER THE INPUT: true; the input reads as it did. -/
def solveKernelsSpec : ChangeSpec := { name := "solveKernels", fn := fun _ => fun
  | [d1, d2] => { results := [.lit (.bool true)], args := [d1, d2] }
  | _ => none }
def solveKernelsRow : OpenClaim := { program := "ythnfphgjfpcpbaa", sum := "ef27af8bc845c64532076692f4f08d18f34557f3cf05039626f1f235662468d8", func := "affidavit/affidavitlaw08.SolveKernels", spec := "solveKernels", unfollowed := true, recurses := true, named := ["math/bits.divideError", "math/bits.overflowError"], apart := false }
def SolveKernelsSaid : Prop := solveKernelsRow.holds Try.pinned (OpenSpec.ofChange solveKernelsSpec)

/-- ITS FALSE NEIGHBOUR: 'it returns false'. Refute it at one input. -/
def solveKernelsWrong : ChangeSpec := { name := "solveKernels", fn := fun _ => fun
  | [d1, d2] => { results := [.lit (.bool false)], args := [d1, d2] }
  | _ => none }
def SolveKernelsWrongFalsely : Prop := solveKernelsRow.holds Try.pinned (OpenSpec.ofChange solveKernelsWrong)

/-- 'affidavitlaw08.SolveInverse': WHATEVER THE INPUT: true; the input reads as it did. -/
def solveInverseSpec : ChangeSpec := { name := "solveInverse", fn := fun _ => fun
  | [d1, d2, d3] => { results := [.lit (.bool true)], args := [d1, d2, d3] }
  | _ => none }
def solveInverseRow : OpenClaim := { program := "ythnfphgjfpcpbaa", sum := "ef27af8bc845c64532076692f4f08d18f34557f3cf05039626f1f235662468d8", func := "affidavit/affidavitlaw08.SolveInverse", spec := "solveInverse", unfollowed := true, recurses := true, named := ["math/bits.divideError", "math/bits.overflowError"], apart := false }
def SolveInverseSaid : Prop := solveInverseRow.holds Try.pinned (OpenSpec.ofChange solveInverseSpec)

/-- ITS FALSE NEIGHBOUR: 'it returns false'. Refute it at one input. -/
def solveInverseWrong : ChangeSpec := { name := "solveInverse", fn := fun _ => fun
  | [d1, d2, d3] => { results := [.lit (.bool false)], args := [d1, d2, d3] }
  | _ => none }
def SolveInverseWrongFalsely : Prop := solveInverseRow.holds Try.pinned (OpenSpec.ofChange solveInverseWrong)

/-- 'affidavitlaw07.CupDet': WHATEVER THE INPUT: true; the input reads as it did. -/
def cupDetSpec : ChangeSpec := { name := "cupDet", fn := fun _ => fun
  | [d1, d2] => { results := [.lit (.bool true)], args := [d1, d2] }
  | _ => none }
def cupDetRow : OpenClaim := { program := "ythnfphgjfpcpbaa", sum := "ef27af8bc845c64532076692f4f08d18f34557f3cf05039626f1f235662468d8", func := "affidavit/affidavitlaw07.CupDet", spec := "cupDet", unfollowed := true, recurses := true, named := ["math/bits.divideError", "math/bits.overflowError"], apart := false }
def CupDetSaid : Prop := cupDetRow.holds Try.pinned (OpenSpec.ofChange cupDetSpec)

/-- ITS FALSE NEIGHBOUR: 'it returns false'. Refute it at one input. -/
def cupDetWrong : ChangeSpec := { name := "cupDet", fn := fun _ => fun
  | [d1, d2] => { results := [.lit (.bool false)], args := [d1, d2] }
  | _ => none }
def CupDetWrongFalsely : Prop := cupDetRow.holds Try.pinned (OpenSpec.ofChange cupDetWrong)

/-- 'affidavitlaw07.CupMakes': WHATEVER THE INPUT: true; the input reads as it did. -/
def cupMakesSpec : ChangeSpec := { name := "cupMakes", fn := fun _ => fun
  | [d1, d2] => { results := [.lit (.bool true)], args := [d1, d2] }
  | _ => none }
def cupMakesRow : OpenClaim := { program := "ythnfphgjfpcpbaa", sum := "ef27af8bc845c64532076692f4f08d18f34557f3cf05039626f1f235662468d8", func := "affidavit/affidavitlaw07.CupMakes", spec := "cupMakes", unfollowed := true, recurses := true, named := ["math/bits.divideError", "math/bits.overflowError"], apart := false }
def CupMakesSaid : Prop := cupMakesRow.holds Try.pinned (OpenSpec.ofChange cupMakesSpec)

/-- ITS FALSE NEIGHBOUR: 'it returns false'. Refute it at one input. -/
def cupMakesWrong : ChangeSpec := { name := "cupMakes", fn := fun _ => fun
  | [d1, d2] => { results := [.lit (.bool false)], args := [d1, d2] }
  | _ => none }
def CupMakesWrongFalsely : Prop := cupMakesRow.holds Try.pinned (OpenSpec.ofChange cupMakesWrong)

/-- 'affidavitlaw07.CupTurned': WHATEVER THE INPUT: true; the input reads as it did. -/
def cupTurnedSpec : ChangeSpec := { name := "cupTurned", fn := fun _ => fun
  | [d1, d2, d3] => { results := [.lit (.bool true)], args := [d1, d2, d3] }
  | _ => none }
def cupTurnedRow : OpenClaim := { program := "ythnfphgjfpcpbaa", sum := "ef27af8bc845c64532076692f4f08d18f34557f3cf05039626f1f235662468d8", func := "affidavit/affidavitlaw07.CupTurned", spec := "cupTurned", unfollowed := true, recurses := true, named := ["math/bits.divideError", "math/bits.overflowError"], apart := false }
def CupTurnedSaid : Prop := cupTurnedRow.holds Try.pinned (OpenSpec.ofChange cupTurnedSpec)

/-- ITS FALSE NEIGHBOUR: 'it returns false'. Refute it at one input. -/
def cupTurnedWrong : ChangeSpec := { name := "cupTurned", fn := fun _ => fun
  | [d1, d2, d3] => { results := [.lit (.bool false)], args := [d1, d2, d3] }
  | _ => none }
def CupTurnedWrongFalsely : Prop := cupTurnedRow.holds Try.pinned (OpenSpec.ofChange cupTurnedWrong)

/-- 'affidavitlaw07.CupProducts': WHATEVER THE INPUT: true; the input reads as it did. -/
def cupProductsSpec : ChangeSpec := { name := "cupProducts", fn := fun _ => fun
  | [d1, d2, d3, d4, d5] => { results := [.lit (.bool true)], args := [d1, d2, d3, d4, d5] }
  | _ => none }
def cupProductsRow : OpenClaim := { program := "ythnfphgjfpcpbaa", sum := "ef27af8bc845c64532076692f4f08d18f34557f3cf05039626f1f235662468d8", func := "affidavit/affidavitlaw07.CupProducts", spec := "cupProducts", unfollowed := true, recurses := true, named := ["math/bits.divideError", "math/bits.overflowError"], apart := false }
def CupProductsSaid : Prop := cupProductsRow.holds Try.pinned (OpenSpec.ofChange cupProductsSpec)

/-- ITS FALSE NEIGHBOUR: 'it returns false'. Refute it at one input. -/
def cupProductsWrong : ChangeSpec := { name := "cupProducts", fn := fun _ => fun
  | [d1, d2, d3, d4, d5] => { results := [.lit (.bool false)], args := [d1, d2, d3, d4, d5] }
  | _ => none }
def CupProductsWrongFalsely : Prop := cupProductsRow.holds Try.pinned (OpenSpec.ofChange cupProductsWrong)

/-- 'affidavitlaw07.CupOrder': WHATEVER THE INPUT: true; the input reads as it did. -/
def cupOrderSpec : ChangeSpec := { name := "cupOrder", fn := fun _ => fun
  | [d1, d2, d3] => { results := [.lit (.bool true)], args := [d1, d2, d3] }
  | _ => none }
def cupOrderRow : OpenClaim := { program := "ythnfphgjfpcpbaa", sum := "ef27af8bc845c64532076692f4f08d18f34557f3cf05039626f1f235662468d8", func := "affidavit/affidavitlaw07.CupOrder", spec := "cupOrder", unfollowed := true, recurses := true, named := ["math/bits.divideError", "math/bits.overflowError"], apart := false }
def CupOrderSaid : Prop := cupOrderRow.holds Try.pinned (OpenSpec.ofChange cupOrderSpec)

/-- ITS FALSE NEIGHBOUR: 'it returns false'. Refute it at one input. -/
def cupOrderWrong : ChangeSpec := { name := "cupOrder", fn := fun _ => fun
  | [d1, d2, d3] => { results := [.lit (.bool false)], args := [d1, d2, d3] }
  | _ => none }
def CupOrderWrongFalsely : Prop := cupOrderRow.holds Try.pinned (OpenSpec.ofChange cupOrderWrong)

/- THE SECOND FORM. 'bulk': how many values and letters a reading holds, each counted each time it is reached (what is shared counts as often as it is met; a slice's spare places count too). A statement '..UptoSaid' is the law's where the arguments, and the package variables that the reading takes, are together of bulk at most 1048576: NARROWER than '..Said'. Prove '..Said' where nothing that the law and all that it calls make is longer than what came in: it says more and counts as full. Else prove '..UptoSaid'. A law counts once. -/
mutual
def uptoBulk {H : Type} : DataW H → Nat
  | .lit (.string bytes) => bytes.length + 1
  | .lit _ => 1
  | .nil => 1
  | .ptr d => uptoBulk d + 1
  | .slice elems spare => uptoBulkAll elems + uptoBulkAll spare + 1
  | .agg parts => uptoBulkAll parts + 1
  | .iface _ d => uptoBulk d + 1
  | .map entries => uptoBulkEntries entries + 1
  | .held _ => 1
def uptoBulkAll {H : Type} : List (DataW H) → Nat
  | [] => 0
  | d :: r => uptoBulk d + uptoBulkAll r
def uptoBulkEntries {H : Type} : List (Lit × DataW H) → Nat
  | [] => 0
  | x :: r => uptoBulkEntry x + uptoBulkEntries r
def uptoBulkEntry {H : Type} : Lit × DataW H → Nat
  | (.string bytes, d) => bytes.length + uptoBulk d + 1
  | (_, d) => uptoBulk d + 1
 end
def uptoSmall : (H : Type) → List (DataW H) → Bool := fun _ ds => decide (uptoBulkAll ds ≤ 1048576)
def OpenSpec.upto (s : _root_.Go.ChangeSpec) : _root_.Go.OpenSpec := { _root_.Go.OpenSpec.ofChange s with cond := some uptoSmall }

/-- 'affidavitlaw08.SolveRight', WHERE WHAT IT READS IS OF BULK AT MOST 1048576: true; the input reads as it did. -/
def solveRightUptoRow : OpenClaim := { program := "ythnfphgjfpcpbaa", sum := "ef27af8bc845c64532076692f4f08d18f34557f3cf05039626f1f235662468d8", func := "affidavit/affidavitlaw08.SolveRight", spec := "solveRight", unfollowed := true, recurses := true, named := ["math/bits.divideError", "math/bits.overflowError"], apart := false, narrowed := true }
def SolveRightUptoSaid : Prop := solveRightUptoRow.holds Try.pinned (OpenSpec.upto solveRightSpec)

/-- 'affidavitlaw08.SolveMore', WHERE WHAT IT READS IS OF BULK AT MOST 1048576: true; the input reads as it did. -/
def solveMoreUptoRow : OpenClaim := { program := "ythnfphgjfpcpbaa", sum := "ef27af8bc845c64532076692f4f08d18f34557f3cf05039626f1f235662468d8", func := "affidavit/affidavitlaw08.SolveMore", spec := "solveMore", unfollowed := true, recurses := true, named := ["math/bits.divideError", "math/bits.overflowError"], apart := false, narrowed := true }
def SolveMoreUptoSaid : Prop := solveMoreUptoRow.holds Try.pinned (OpenSpec.upto solveMoreSpec)

/-- 'affidavitlaw08.SolveOr', WHERE WHAT IT READS IS OF BULK AT MOST 1048576: true; the input reads as it did. -/
def solveOrUptoRow : OpenClaim := { program := "ythnfphgjfpcpbaa", sum := "ef27af8bc845c64532076692f4f08d18f34557f3cf05039626f1f235662468d8", func := "affidavit/affidavitlaw08.SolveOr", spec := "solveOr", unfollowed := true, recurses := true, named := ["math/bits.divideError", "math/bits.overflowError"], apart := false, narrowed := true }
def SolveOrUptoSaid : Prop := solveOrUptoRow.holds Try.pinned (OpenSpec.upto solveOrSpec)

/-- 'affidavitlaw08.SolveKernels', WHERE WHAT IT READS IS OF BULK AT MOST 1048576: true; the input reads as it did. -/
def solveKernelsUptoRow : OpenClaim := { program := "ythnfphgjfpcpbaa", sum := "ef27af8bc845c64532076692f4f08d18f34557f3cf05039626f1f235662468d8", func := "affidavit/affidavitlaw08.SolveKernels", spec := "solveKernels", unfollowed := true, recurses := true, named := ["math/bits.divideError", "math/bits.overflowError"], apart := false, narrowed := true }
def SolveKernelsUptoSaid : Prop := solveKernelsUptoRow.holds Try.pinned (OpenSpec.upto solveKernelsSpec)

/-- 'affidavitlaw08.SolveInverse', WHERE WHAT IT READS IS OF BULK AT MOST 1048576: true; the input reads as it did. -/
def solveInverseUptoRow : OpenClaim := { program := "ythnfphgjfpcpbaa", sum := "ef27af8bc845c64532076692f4f08d18f34557f3cf05039626f1f235662468d8", func := "affidavit/affidavitlaw08.SolveInverse", spec := "solveInverse", unfollowed := true, recurses := true, named := ["math/bits.divideError", "math/bits.overflowError"], apart := false, narrowed := true }
def SolveInverseUptoSaid : Prop := solveInverseUptoRow.holds Try.pinned (OpenSpec.upto solveInverseSpec)

/-- 'affidavitlaw07.CupDet', WHERE WHAT IT READS IS OF BULK AT MOST 1048576: true; the input reads as it did. -/
def cupDetUptoRow : OpenClaim := { program := "ythnfphgjfpcpbaa", sum := "ef27af8bc845c64532076692f4f08d18f34557f3cf05039626f1f235662468d8", func := "affidavit/affidavitlaw07.CupDet", spec := "cupDet", unfollowed := true, recurses := true, named := ["math/bits.divideError", "math/bits.overflowError"], apart := false, narrowed := true }
def CupDetUptoSaid : Prop := cupDetUptoRow.holds Try.pinned (OpenSpec.upto cupDetSpec)

/-- 'affidavitlaw07.CupMakes', WHERE WHAT IT READS IS OF BULK AT MOST 1048576: true; the input reads as it did. -/
def cupMakesUptoRow : OpenClaim := { program := "ythnfphgjfpcpbaa", sum := "ef27af8bc845c64532076692f4f08d18f34557f3cf05039626f1f235662468d8", func := "affidavit/affidavitlaw07.CupMakes", spec := "cupMakes", unfollowed := true, recurses := true, named := ["math/bits.divideError", "math/bits.overflowError"], apart := false, narrowed := true }
def CupMakesUptoSaid : Prop := cupMakesUptoRow.holds Try.pinned (OpenSpec.upto cupMakesSpec)

/-- 'affidavitlaw07.CupTurned', WHERE WHAT IT READS IS OF BULK AT MOST 1048576: true; the input reads as it did. -/
def cupTurnedUptoRow : OpenClaim := { program := "ythnfphgjfpcpbaa", sum := "ef27af8bc845c64532076692f4f08d18f34557f3cf05039626f1f235662468d8", func := "affidavit/affidavitlaw07.CupTurned", spec := "cupTurned", unfollowed := true, recurses := true, named := ["math/bits.divideError", "math/bits.overflowError"], apart := false, narrowed := true }
def CupTurnedUptoSaid : Prop := cupTurnedUptoRow.holds Try.pinned (OpenSpec.upto cupTurnedSpec)

/-- 'affidavitlaw07.CupProducts', WHERE WHAT IT READS IS OF BULK AT MOST 1048576: true; the input reads as it did. -/
def cupProductsUptoRow : OpenClaim := { program := "ythnfphgjfpcpbaa", sum := "ef27af8bc845c64532076692f4f08d18f34557f3cf05039626f1f235662468d8", func := "affidavit/affidavitlaw07.CupProducts", spec := "cupProducts", unfollowed := true, recurses := true, named := ["math/bits.divideError", "math/bits.overflowError"], apart := false, narrowed := true }
def CupProductsUptoSaid : Prop := cupProductsUptoRow.holds Try.pinned (OpenSpec.upto cupProductsSpec)

/-- 'affidavitlaw07.CupOrder', WHERE WHAT IT READS IS OF BULK AT MOST 1048576: true; the input reads as it did. -/
def cupOrderUptoRow : OpenClaim := { program := "ythnfphgjfpcpbaa", sum := "ef27af8bc845c64532076692f4f08d18f34557f3cf05039626f1f235662468d8", func := "affidavit/affidavitlaw07.CupOrder", spec := "cupOrder", unfollowed := true, recurses := true, named := ["math/bits.divideError", "math/bits.overflowError"], apart := false, narrowed := true }
def CupOrderUptoSaid : Prop := cupOrderUptoRow.holds Try.pinned (OpenSpec.upto cupOrderSpec)

end Rows
end Go.Proofs.Ythnfphgjfpcpbaa
