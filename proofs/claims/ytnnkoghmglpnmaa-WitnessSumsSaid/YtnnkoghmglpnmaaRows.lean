/-
  No cell of these rows narrows 'for every input' (looked for: loops, veiled, ifaces, maps, wideKeys, modest, calm, conditions, laid).
  DERIVED. THE GIVEN ROWS OF THIS SEAT. 10 by the template 'for every input the law returns true; each argument reads behind the call as it read before'; 0 by the template 'total and deterministic' (their statements: YtnnkoghmglpnmaaTotals.lean).
  GIVEN WITH THE SEED: the statements are not yours to turn. If you find one false, say at which input.
  Laid BY PROGRAM, IN A SANDBOX (cutbox-rows.mjs): the forced cells as the released guide's own fill.sh prints them over the translation 147f5f55a5796a90… (all of the seat's roots in one cut). By AI agents, Wed Nov 11 2026. No macro, syntax, notation, axiom, sorry.
-/
import Derived.Test.YtnnkoghmglpnmaaChecked
import GoSem.Claim
import GoSem.ClaimJoined
import GoSem.ClaimMapViews
import Derived.JoinedTies
import Derived.KernelRfl
namespace Go.Proofs.Ytnnkoghmglpnmaa
/- THE CELL 'sum', in the pinned program and in every row, IS THE sha256 OF THE DUMP (.gsa) THAT YtnnkoghmglpnmaaProg.lean LOADS. Nothing in Lean hashes anything: it is a label: what it is worth is what the hold of that sum in a sandbox is worth. -/
noncomputable def Try.pinned : Pinned := { name := "ytnnkoghmglpnmaa", sum := "147f5f55a5796a90b36a7d828546fe2610d1882e896912f51040b3622a26fb74", checked := Try.checked }
namespace Rows
def none {H : Type} : Left H := { results := [], args := [] }

/-- 'affidavitlaw05.MatrixThin': WHATEVER THE INPUT: true; the input reads as it did. -/
def matrixThinSpec : ChangeSpec := { name := "matrixThin", fn := fun _ => fun
  | [d1, d2, d3] => { results := [.lit (.bool true)], args := [d1, d2, d3] }
  | _ => none }
def matrixThinRow : OpenClaim := { program := "ytnnkoghmglpnmaa", sum := "147f5f55a5796a90b36a7d828546fe2610d1882e896912f51040b3622a26fb74", func := "affidavit/affidavitlaw05.MatrixThin", spec := "matrixThin", named := ["math/bits.divideError", "math/bits.overflowError"], apart := false }
def MatrixThinSaid : Prop := matrixThinRow.holds Try.pinned (OpenSpec.ofChange matrixThinSpec)

/-- ITS FALSE NEIGHBOUR: 'it returns false'. Refute it at one input. -/
def matrixThinWrong : ChangeSpec := { name := "matrixThin", fn := fun _ => fun
  | [d1, d2, d3] => { results := [.lit (.bool false)], args := [d1, d2, d3] }
  | _ => none }
def MatrixThinWrongFalsely : Prop := matrixThinRow.holds Try.pinned (OpenSpec.ofChange matrixThinWrong)

/-- 'affidavitlaw05.MatrixPicks': WHATEVER THE INPUT: true; the input reads as it did. -/
def matrixPicksSpec : ChangeSpec := { name := "matrixPicks", fn := fun _ => fun
  | [d1, d2, d3, d4] => { results := [.lit (.bool true)], args := [d1, d2, d3, d4] }
  | _ => none }
def matrixPicksRow : OpenClaim := { program := "ytnnkoghmglpnmaa", sum := "147f5f55a5796a90b36a7d828546fe2610d1882e896912f51040b3622a26fb74", func := "affidavit/affidavitlaw05.MatrixPicks", spec := "matrixPicks", unfollowed := true, recurses := true, named := ["math/bits.divideError", "math/bits.overflowError"], apart := false }
def MatrixPicksSaid : Prop := matrixPicksRow.holds Try.pinned (OpenSpec.ofChange matrixPicksSpec)

/-- ITS FALSE NEIGHBOUR: 'it returns false'. Refute it at one input. -/
def matrixPicksWrong : ChangeSpec := { name := "matrixPicks", fn := fun _ => fun
  | [d1, d2, d3, d4] => { results := [.lit (.bool false)], args := [d1, d2, d3, d4] }
  | _ => none }
def MatrixPicksWrongFalsely : Prop := matrixPicksRow.holds Try.pinned (OpenSpec.ofChange matrixPicksWrong)

/-- 'affidavitlaw05.MatrixPicked': WHATEVER THE INPUT: true; the input reads as it did. -/
def matrixPickedSpec : ChangeSpec := { name := "matrixPicked", fn := fun _ => fun
  | [d1, d2, d3, d4, d5, d6] => { results := [.lit (.bool true)], args := [d1, d2, d3, d4, d5, d6] }
  | _ => none }
def matrixPickedRow : OpenClaim := { program := "ytnnkoghmglpnmaa", sum := "147f5f55a5796a90b36a7d828546fe2610d1882e896912f51040b3622a26fb74", func := "affidavit/affidavitlaw05.MatrixPicked", spec := "matrixPicked", unfollowed := true, recurses := true, named := ["math/bits.divideError", "math/bits.overflowError"], apart := false }
def MatrixPickedSaid : Prop := matrixPickedRow.holds Try.pinned (OpenSpec.ofChange matrixPickedSpec)

/-- ITS FALSE NEIGHBOUR: 'it returns false'. Refute it at one input. -/
def matrixPickedWrong : ChangeSpec := { name := "matrixPicked", fn := fun _ => fun
  | [d1, d2, d3, d4, d5, d6] => { results := [.lit (.bool false)], args := [d1, d2, d3, d4, d5, d6] }
  | _ => none }
def MatrixPickedWrongFalsely : Prop := matrixPickedRow.holds Try.pinned (OpenSpec.ofChange matrixPickedWrong)

/-- 'affidavitlaw05.MatrixApplies': WHATEVER THE INPUT: true; the input reads as it did. -/
def matrixAppliesSpec : ChangeSpec := { name := "matrixApplies", fn := fun _ => fun
  | [d1, d2, d3, d4, d5] => { results := [.lit (.bool true)], args := [d1, d2, d3, d4, d5] }
  | _ => none }
def matrixAppliesRow : OpenClaim := { program := "ytnnkoghmglpnmaa", sum := "147f5f55a5796a90b36a7d828546fe2610d1882e896912f51040b3622a26fb74", func := "affidavit/affidavitlaw05.MatrixApplies", spec := "matrixApplies", unfollowed := true, recurses := true, named := ["math/bits.divideError", "math/bits.overflowError"], apart := false }
def MatrixAppliesSaid : Prop := matrixAppliesRow.holds Try.pinned (OpenSpec.ofChange matrixAppliesSpec)

/-- ITS FALSE NEIGHBOUR: 'it returns false'. Refute it at one input. -/
def matrixAppliesWrong : ChangeSpec := { name := "matrixApplies", fn := fun _ => fun
  | [d1, d2, d3, d4, d5] => { results := [.lit (.bool false)], args := [d1, d2, d3, d4, d5] }
  | _ => none }
def MatrixAppliesWrongFalsely : Prop := matrixAppliesRow.holds Try.pinned (OpenSpec.ofChange matrixAppliesWrong)

/-- 'affidavitlaw05.MatrixRight': WHATEVER THE INPUT: true; the input reads as it did. -/
def matrixRightSpec : ChangeSpec := { name := "matrixRight", fn := fun _ => fun
  | [d1, d2, d3, d4, d5, d6] => { results := [.lit (.bool true)], args := [d1, d2, d3, d4, d5, d6] }
  | _ => none }
def matrixRightRow : OpenClaim := { program := "ytnnkoghmglpnmaa", sum := "147f5f55a5796a90b36a7d828546fe2610d1882e896912f51040b3622a26fb74", func := "affidavit/affidavitlaw05.MatrixRight", spec := "matrixRight", unfollowed := true, recurses := true, named := ["math/bits.divideError", "math/bits.overflowError"], apart := false }
def MatrixRightSaid : Prop := matrixRightRow.holds Try.pinned (OpenSpec.ofChange matrixRightSpec)

/-- ITS FALSE NEIGHBOUR: 'it returns false'. Refute it at one input. -/
def matrixRightWrong : ChangeSpec := { name := "matrixRight", fn := fun _ => fun
  | [d1, d2, d3, d4, d5, d6] => { results := [.lit (.bool false)], args := [d1, d2, d3, d4, d5, d6] }
  | _ => none }
def MatrixRightWrongFalsely : Prop := matrixRightRow.holds Try.pinned (OpenSpec.ofChange matrixRightWrong)

/-- 'affidavitlaw14.WitnessSums': WHATEVER THE INPUT: true; the input reads as it did. -/
def witnessSumsSpec : ChangeSpec := { name := "witnessSums", fn := fun _ => fun
  | [d1, d2, d3, d4, d5, d6, d7] => { results := [.lit (.bool true)], args := [d1, d2, d3, d4, d5, d6, d7] }
  | _ => none }
def witnessSumsRow : OpenClaim := { program := "ytnnkoghmglpnmaa", sum := "147f5f55a5796a90b36a7d828546fe2610d1882e896912f51040b3622a26fb74", func := "affidavit/affidavitlaw14.WitnessSums", spec := "witnessSums", unfollowed := true, recurses := true, named := ["math/bits.divideError", "math/bits.overflowError"], apart := false }
def WitnessSumsSaid : Prop := witnessSumsRow.holds Try.pinned (OpenSpec.ofChange witnessSumsSpec)

/-- ITS FALSE NEIGHBOUR: 'it returns false'. Refute it at one input. -/
def witnessSumsWrong : ChangeSpec := { name := "witnessSums", fn := fun _ => fun
  | [d1, d2, d3, d4, d5, d6, d7] => { results := [.lit (.bool false)], args := [d1, d2, d3, d4, d5, d6, d7] }
  | _ => none }
def WitnessSumsWrongFalsely : Prop := witnessSumsRow.holds Try.pinned (OpenSpec.ofChange witnessSumsWrong)

/-- 'affidavitlaw12.FoldParts': WHATEVER THE INPUT: true; the input reads as it did. -/
def foldPartsSpec : ChangeSpec := { name := "foldParts", fn := fun _ => fun
  | [d1, d2, d3, d4] => { results := [.lit (.bool true)], args := [d1, d2, d3, d4] }
  | _ => none }
def foldPartsRow : OpenClaim := { program := "ytnnkoghmglpnmaa", sum := "147f5f55a5796a90b36a7d828546fe2610d1882e896912f51040b3622a26fb74", func := "affidavit/affidavitlaw12.FoldParts", spec := "foldParts", unfollowed := true, recurses := true, named := ["math/bits.divideError", "math/bits.overflowError"], apart := false }
def FoldPartsSaid : Prop := foldPartsRow.holds Try.pinned (OpenSpec.ofChange foldPartsSpec)

/-- ITS FALSE NEIGHBOUR: 'it returns false'. Refute it at one input. -/
def foldPartsWrong : ChangeSpec := { name := "foldParts", fn := fun _ => fun
  | [d1, d2, d3, d4] => { results := [.lit (.bool false)], args := [d1, d2, d3, d4] }
  | _ => none }
def FoldPartsWrongFalsely : Prop := foldPartsRow.holds Try.pinned (OpenSpec.ofChange foldPartsWrong)

/-- 'affidavitlaw12.FoldSides': WHATEVER THE INPUT: true; the input reads as it did. -/
def foldSidesSpec : ChangeSpec := { name := "foldSides", fn := fun _ => fun
  | [d1, d2, d3, d4] => { results := [.lit (.bool true)], args := [d1, d2, d3, d4] }
  | _ => none }
def foldSidesRow : OpenClaim := { program := "ytnnkoghmglpnmaa", sum := "147f5f55a5796a90b36a7d828546fe2610d1882e896912f51040b3622a26fb74", func := "affidavit/affidavitlaw12.FoldSides", spec := "foldSides", unfollowed := true, recurses := true, named := ["math/bits.divideError", "math/bits.overflowError"], apart := false }
def FoldSidesSaid : Prop := foldSidesRow.holds Try.pinned (OpenSpec.ofChange foldSidesSpec)

/-- ITS FALSE NEIGHBOUR: 'it returns false'. Refute it at one input. -/
def foldSidesWrong : ChangeSpec := { name := "foldSides", fn := fun _ => fun
  | [d1, d2, d3, d4] => { results := [.lit (.bool false)], args := [d1, d2, d3, d4] }
  | _ => none }
def FoldSidesWrongFalsely : Prop := foldSidesRow.holds Try.pinned (OpenSpec.ofChange foldSidesWrong)

/-- 'affidavitlaw14.WitnessParts': WHATEVER THE INPUT: true; the input reads as it did. -/
def witnessPartsSpec : ChangeSpec := { name := "witnessParts", fn := fun _ => fun
  | [d1, d2] => { results := [.lit (.bool true)], args := [d1, d2] }
  | _ => none }
def witnessPartsRow : OpenClaim := { program := "ytnnkoghmglpnmaa", sum := "147f5f55a5796a90b36a7d828546fe2610d1882e896912f51040b3622a26fb74", func := "affidavit/affidavitlaw14.WitnessParts", spec := "witnessParts", unfollowed := true, recurses := true, named := ["math/bits.divideError", "math/bits.overflowError"], apart := false }
def WitnessPartsSaid : Prop := witnessPartsRow.holds Try.pinned (OpenSpec.ofChange witnessPartsSpec)

/-- ITS FALSE NEIGHBOUR: 'it returns false'. Refute it at one input. -/
def witnessPartsWrong : ChangeSpec := { name := "witnessParts", fn := fun _ => fun
  | [d1, d2] => { results := [.lit (.bool false)], args := [d1, d2] }
  | _ => none }
def WitnessPartsWrongFalsely : Prop := witnessPartsRow.holds Try.pinned (OpenSpec.ofChange witnessPartsWrong)

/-- 'affidavitlaw14.WitnessShows': WHATEVER THE INPUT: true; the input reads as it did. -/
def witnessShowsSpec : ChangeSpec := { name := "witnessShows", fn := fun _ => fun
  | [d1, d2, d3, d4, d5] => { results := [.lit (.bool true)], args := [d1, d2, d3, d4, d5] }
  | _ => none }
def witnessShowsRow : OpenClaim := { program := "ytnnkoghmglpnmaa", sum := "147f5f55a5796a90b36a7d828546fe2610d1882e896912f51040b3622a26fb74", func := "affidavit/affidavitlaw14.WitnessShows", spec := "witnessShows", unfollowed := true, recurses := true, named := ["math/bits.divideError", "math/bits.overflowError"], apart := false }
def WitnessShowsSaid : Prop := witnessShowsRow.holds Try.pinned (OpenSpec.ofChange witnessShowsSpec)

/-- ITS FALSE NEIGHBOUR: 'it returns false'. Refute it at one input. -/
def witnessShowsWrong : ChangeSpec := { name := "witnessShows", fn := fun _ => fun
  | [d1, d2, d3, d4, d5] => { results := [.lit (.bool false)], args := [d1, d2, d3, d4, d5] }
  | _ => none }
def WitnessShowsWrongFalsely : Prop := witnessShowsRow.holds Try.pinned (OpenSpec.ofChange witnessShowsWrong)

/- THE SECOND FORM. 'bulk': how many values and letters a reading holds, each counted each time it is reached (what is shared counts as often as it is met; a slice's spare places count too). A statement '..UptoSaid' is the law's where the arguments, and the package variables that the reading takes, are together of bulk at most 1048576: NARROWER than '..Said'. Prove '..Said' where nothing that the law and all that it calls make is longer than what came in: it says more and counts as full. Else prove '..UptoSaid'. A law counts once. -/
mutual
def uptoBulk {H : Type} : DataW H → Nat
  | .lit (.string bytes) => bytes.length + 1
  | .lit _ => 1
  | .nil => 1
  | .ptr d => uptoBulk d + 1
  | .slice elems spare => uptoBulkAll elems + uptoBulkAll spare + 1
  | .agg parts => uptoBulkAll parts + 1
  | .iface _ d => uptoBulk d + 1
  | .map entries => uptoBulkEntries entries + 1
  | .held _ => 1
def uptoBulkAll {H : Type} : List (DataW H) → Nat
  | [] => 0
  | d :: r => uptoBulk d + uptoBulkAll r
def uptoBulkEntries {H : Type} : List (Lit × DataW H) → Nat
  | [] => 0
  | x :: r => uptoBulkEntry x + uptoBulkEntries r
def uptoBulkEntry {H : Type} : Lit × DataW H → Nat
  | (.string bytes, d) => bytes.length + uptoBulk d + 1
  | (_, d) => uptoBulk d + 1
 end
def uptoSmall : (H : Type) → List (DataW H) → Bool := fun _ ds => decide (uptoBulkAll ds ≤ 1048576)
def OpenSpec.upto (s : _root_.Go.ChangeSpec) : _root_.Go.OpenSpec := { _root_.Go.OpenSpec.ofChange s with cond := some uptoSmall }

/-- 'affidavitlaw05.MatrixThin', WHERE WHAT IT READS IS OF BULK AT MOST 1048576: true; the input reads as it did. -/
def matrixThinUptoRow : OpenClaim := { program := "ytnnkoghmglpnmaa", sum := "147f5f55a5796a90b36a7d828546fe2610d1882e896912f51040b3622a26fb74", func := "affidavit/affidavitlaw05.MatrixThin", spec := "matrixThin", named := ["math/bits.divideError", "math/bits.overflowError"], apart := false, narrowed := true }
def MatrixThinUptoSaid : Prop := matrixThinUptoRow.holds Try.pinned (OpenSpec.upto matrixThinSpec)

/-- 'affidavitlaw05.MatrixPicks', WHERE WHAT IT READS IS OF BULK AT MOST 1048576: true; the input reads as it did. -/
def matrixPicksUptoRow : OpenClaim := { program := "ytnnkoghmglpnmaa", sum := "147f5f55a5796a90b36a7d828546fe2610d1882e896912f51040b3622a26fb74", func := "affidavit/affidavitlaw05.MatrixPicks", spec := "matrixPicks", unfollowed := true, recurses := true, named := ["math/bits.divideError", "math/bits.overflowError"], apart := false, narrowed := true }
def MatrixPicksUptoSaid : Prop := matrixPicksUptoRow.holds Try.pinned (OpenSpec.upto matrixPicksSpec)

/-- 'affidavitlaw05.MatrixPicked', WHERE WHAT IT READS IS OF BULK AT MOST 1048576: true; the input reads as it did. -/
def matrixPickedUptoRow : OpenClaim := { program := "ytnnkoghmglpnmaa", sum := "147f5f55a5796a90b36a7d828546fe2610d1882e896912f51040b3622a26fb74", func := "affidavit/affidavitlaw05.MatrixPicked", spec := "matrixPicked", unfollowed := true, recurses := true, named := ["math/bits.divideError", "math/bits.overflowError"], apart := false, narrowed := true }
def MatrixPickedUptoSaid : Prop := matrixPickedUptoRow.holds Try.pinned (OpenSpec.upto matrixPickedSpec)

/-- 'affidavitlaw05.MatrixApplies', WHERE WHAT IT READS IS OF BULK AT MOST 1048576: true; the input reads as it did. -/
def matrixAppliesUptoRow : OpenClaim := { program := "ytnnkoghmglpnmaa", sum := "147f5f55a5796a90b36a7d828546fe2610d1882e896912f51040b3622a26fb74", func := "affidavit/affidavitlaw05.MatrixApplies", spec := "matrixApplies", unfollowed := true, recurses := true, named := ["math/bits.divideError", "math/bits.overflowError"], apart := false, narrowed := true }
def MatrixAppliesUptoSaid : Prop := matrixAppliesUptoRow.holds Try.pinned (OpenSpec.upto matrixAppliesSpec)

/-- 'affidavitlaw05.MatrixRight', WHERE WHAT IT READS IS OF BULK AT MOST 1048576: true; the input reads as it did. -/
def matrixRightUptoRow : OpenClaim := { program := "ytnnkoghmglpnmaa", sum := "147f5f55a5796a90b36a7d828546fe2610d1882e896912f51040b3622a26fb74", func := "affidavit/affidavitlaw05.MatrixRight", spec := "matrixRight", unfollowed := true, recurses := true, named := ["math/bits.divideError", "math/bits.overflowError"], apart := false, narrowed := true }
def MatrixRightUptoSaid : Prop := matrixRightUptoRow.holds Try.pinned (OpenSpec.upto matrixRightSpec)

/-- 'affidavitlaw14.WitnessSums', WHERE WHAT IT READS IS OF BULK AT MOST 1048576: true; the input reads as it did. -/
def witnessSumsUptoRow : OpenClaim := { program := "ytnnkoghmglpnmaa", sum := "147f5f55a5796a90b36a7d828546fe2610d1882e896912f51040b3622a26fb74", func := "affidavit/affidavitlaw14.WitnessSums", spec := "witnessSums", unfollowed := true, recurses := true, named := ["math/bits.divideError", "math/bits.overflowError"], apart := false, narrowed := true }
def WitnessSumsUptoSaid : Prop := witnessSumsUptoRow.holds Try.pinned (OpenSpec.upto witnessSumsSpec)

/-- 'affidavitlaw12.FoldParts', WHERE WHAT IT READS IS OF BULK AT MOST 1048576: true; the input reads as it did. -/
def foldPartsUptoRow : OpenClaim := { program := "ytnnkoghmglpnmaa", sum := "147f5f55a5796a90b36a7d828546fe2610d1882e896912f51040b3622a26fb74", func := "affidavit/affidavitlaw12.FoldParts", spec := "foldParts", unfollowed := true, recurses := true, named := ["math/bits.divideError", "math/bits.overflowError"], apart := false, narrowed := true }
def FoldPartsUptoSaid : Prop := foldPartsUptoRow.holds Try.pinned (OpenSpec.upto foldPartsSpec)

/-- 'affidavitlaw12.FoldSides', WHERE WHAT IT READS IS OF BULK AT MOST 1048576: true; the input reads as it did. -/
def foldSidesUptoRow : OpenClaim := { program := "ytnnkoghmglpnmaa", sum := "147f5f55a5796a90b36a7d828546fe2610d1882e896912f51040b3622a26fb74", func := "affidavit/affidavitlaw12.FoldSides", spec := "foldSides", unfollowed := true, recurses := true, named := ["math/bits.divideError", "math/bits.overflowError"], apart := false, narrowed := true }
def FoldSidesUptoSaid : Prop := foldSidesUptoRow.holds Try.pinned (OpenSpec.upto foldSidesSpec)

/-- 'affidavitlaw14.WitnessParts', WHERE WHAT IT READS IS OF BULK AT MOST 1048576: true; the input reads as it did. -/
def witnessPartsUptoRow : OpenClaim := { program := "ytnnkoghmglpnmaa", sum := "147f5f55a5796a90b36a7d828546fe2610d1882e896912f51040b3622a26fb74", func := "affidavit/affidavitlaw14.WitnessParts", spec := "witnessParts", unfollowed := true, recurses := true, named := ["math/bits.divideError", "math/bits.overflowError"], apart := false, narrowed := true }
def WitnessPartsUptoSaid : Prop := witnessPartsUptoRow.holds Try.pinned (OpenSpec.upto witnessPartsSpec)

/-- 'affidavitlaw14.WitnessShows', WHERE WHAT IT READS IS OF BULK AT MOST 1048576: true; the input reads as it did. -/
def witnessShowsUptoRow : OpenClaim := { program := "ytnnkoghmglpnmaa", sum := "147f5f55a5796a90b36a7d828546fe2610d1882e896912f51040b3622a26fb74", func := "affidavit/affidavitlaw14.WitnessShows", spec := "witnessShows", unfollowed := true, recurses := true, named := ["math/bits.divideError", "math/bits.overflowError"], apart := false, narrowed := true }
def WitnessShowsUptoSaid : Prop := witnessShowsUptoRow.holds Try.pinned (OpenSpec.upto witnessShowsSpec)

end Rows
end Go.Proofs.Ytnnkoghmglpnmaa
