/-
  No cell of these rows narrows 'for every input' (looked for: loops, veiled, ifaces, maps, wideKeys, modest, calm, conditions, laid).
  DERIVED. THE GIVEN ROWS OF THIS SEAT. 8 by the template 'for every input the law returns true; each argument reads behind the call as it read before'; 0 by the template 'total and deterministic' (their statements: YtmalpmnmknpphaaTotals.lean).
  GIVEN WITH THE SEED: the statements are not yours to turn. If you find one false, say at which input.
  Laid BY PROGRAM, IN A SANDBOX (cutbox-rows.mjs): the forced cells as the released guide's own fill.sh prints them over the translation a28793cca0dbeabd… (all of the seat's roots in one cut). By AI agents, Wed Nov 11 2026. No macro, syntax, notation, axiom, sorry.
-/
import Derived.Test.YtmalpmnmknpphaaChecked
import GoSem.Claim
import GoSem.ClaimJoined
import GoSem.ClaimMapViews
import Derived.JoinedTies
import Derived.KernelRfl
namespace Go.Proofs.Ytmalpmnmknpphaa
/- THE CELL 'sum', in the pinned program and in every row, IS THE sha256 OF THE DUMP (.gsa) THAT YtmalpmnmknpphaaProg.lean LOADS. Nothing in Lean hashes anything: it is a label: what it is worth is what the hold of that sum in a sandbox is worth. -/
noncomputable def Try.pinned : Pinned := { name := "ytmalpmnmknpphaa", sum := "a28793cca0dbeabd77c690c889927aee222fb67665098eb86b08c02e9b7e8637", checked := Try.checked }
namespace Rows
def none {H : Type} : Left H := { results := [], args := [] }

/-- 'affidavitlaw12.FoldParts': WHATEVER THE INPUT: true; the input reads as it did. -/
def foldPartsSpec : ChangeSpec := { name := "foldParts", fn := fun _ => fun
  | [d1, d2, d3, d4] => { results := [.lit (.bool true)], args := [d1, d2, d3, d4] }
  | _ => none }
def foldPartsRow : OpenClaim := { program := "ytmalpmnmknpphaa", sum := "a28793cca0dbeabd77c690c889927aee222fb67665098eb86b08c02e9b7e8637", func := "affidavit/affidavitlaw12.FoldParts", spec := "foldParts", unfollowed := true, recurses := true, named := ["math/bits.divideError", "math/bits.overflowError"], apart := false }
def FoldPartsSaid : Prop := foldPartsRow.holds Try.pinned (OpenSpec.ofChange foldPartsSpec)

/-- ITS FALSE NEIGHBOUR: 'it returns false'. Refute it at one input. -/
def foldPartsWrong : ChangeSpec := { name := "foldParts", fn := fun _ => fun
  | [d1, d2, d3, d4] => { results := [.lit (.bool false)], args := [d1, d2, d3, d4] }
  | _ => none }
def FoldPartsWrongFalsely : Prop := foldPartsRow.holds Try.pinned (OpenSpec.ofChange foldPartsWrong)

/-- 'affidavitlaw12.FoldSides': WHATEVER THE INPUT: true; the input reads as it did. -/
def foldSidesSpec : ChangeSpec := { name := "foldSides", fn := fun _ => fun
  | [d1, d2, d3, d4] => { results := [.lit (.bool true)], args := [d1, d2, d3, d4] }
  | _ => none }
def foldSidesRow : OpenClaim := { program := "ytmalpmnmknpphaa", sum := "a28793cca0dbeabd77c690c889927aee222fb67665098eb86b08c02e9b7e8637", func := "affidavit/affidavitlaw12.FoldSides", spec := "foldSides", unfollowed := true, recurses := true, named := ["math/bits.divideError", "math/bits.overflowError"], apart := false }
def FoldSidesSaid : Prop := foldSidesRow.holds Try.pinned (OpenSpec.ofChange foldSidesSpec)

/-- ITS FALSE NEIGHBOUR: 'it returns false'. Refute it at one input. -/
def foldSidesWrong : ChangeSpec := { name := "foldSides", fn := fun _ => fun
  | [d1, d2, d3, d4] => { results := [.lit (.bool false)], args := [d1, d2, d3, d4] }
  | _ => none }
def FoldSidesWrongFalsely : Prop := foldSidesRow.holds Try.pinned (OpenSpec.ofChange foldSidesWrong)

/-- 'affidavitlaw14.WitnessParts': WHATEVER THE INPUT: true; the input reads as it did. -/
def witnessPartsSpec : ChangeSpec := { name := "witnessParts", fn := fun _ => fun
  | [d1, d2] => { results := [.lit (.bool true)], args := [d1, d2] }
  | _ => none }
def witnessPartsRow : OpenClaim := { program := "ytmalpmnmknpphaa", sum := "a28793cca0dbeabd77c690c889927aee222fb67665098eb86b08c02e9b7e8637", func := "affidavit/affidavitlaw14.WitnessParts", spec := "witnessParts", unfollowed := true, recurses := true, named := ["math/bits.divideError", "math/bits.overflowError"], apart := false }
def WitnessPartsSaid : Prop := witnessPartsRow.holds Try.pinned (OpenSpec.ofChange witnessPartsSpec)

/-- ITS FALSE NEIGHBOUR: 'it returns false'. Refute it at one input. -/
def witnessPartsWrong : ChangeSpec := { name := "witnessParts", fn := fun _ => fun
  | [d1, d2] => { results := [.lit (.bool false)], args := [d1, d2] }
  | _ => none }
def WitnessPartsWrongFalsely : Prop := witnessPartsRow.holds Try.pinned (OpenSpec.ofChange witnessPartsWrong)

/-- 'affidavitlaw14.WitnessShows': WHATEVER THE INPUT: true; the input reads as it did. -/
def witnessShowsSpec : ChangeSpec := { name := "witnessShows", fn := fun _ => fun
  | [d1, d2, d3, d4, d5] => { results := [.lit (.bool true)], args := [d1, d2, d3, d4, d5] }
  | _ => none }
def witnessShowsRow : OpenClaim := { program := "ytmalpmnmknpphaa", sum := "a28793cca0dbeabd77c690c889927aee222fb67665098eb86b08c02e9b7e8637", func := "affidavit/affidavitlaw14.WitnessShows", spec := "witnessShows", unfollowed := true, recurses := true, named := ["math/bits.divideError", "math/bits.overflowError"], apart := false }
def WitnessShowsSaid : Prop := witnessShowsRow.holds Try.pinned (OpenSpec.ofChange witnessShowsSpec)

/-- ITS FALSE NEIGHBOUR: 'it returns false'. Refute it at one input. -/
def witnessShowsWrong : ChangeSpec := { name := "witnessShows", fn := fun _ => fun
  | [d1, d2, d3, d4, d5] => { results := [.lit (.bool false)], args := [d1, d2, d3, d4, d5] }
  | _ => none }
def WitnessShowsWrongFalsely : Prop := witnessShowsRow.holds Try.pinned (OpenSpec.ofChange witnessShowsWrong)

/-- 'affidavitlaw13.ShapeParts': WHATEVER THE INPUT: true; the input reads as it did. -/
def shapePartsSpec : ChangeSpec := { name := "shapeParts", fn := fun _ => fun
  | [d1, d2, d3] => { results := [.lit (.bool true)], args := [d1, d2, d3] }
  | _ => none }
def shapePartsRow : OpenClaim := { program := "ytmalpmnmknpphaa", sum := "a28793cca0dbeabd77c690c889927aee222fb67665098eb86b08c02e9b7e8637", func := "affidavit/affidavitlaw13.ShapeParts", spec := "shapeParts", unfollowed := true, recurses := true, named := ["math/bits.divideError", "math/bits.overflowError"], apart := false }
def ShapePartsSaid : Prop := shapePartsRow.holds Try.pinned (OpenSpec.ofChange shapePartsSpec)

/-- ITS FALSE NEIGHBOUR: 'it returns false'. Refute it at one input. -/
def shapePartsWrong : ChangeSpec := { name := "shapeParts", fn := fun _ => fun
  | [d1, d2, d3] => { results := [.lit (.bool false)], args := [d1, d2, d3] }
  | _ => none }
def ShapePartsWrongFalsely : Prop := shapePartsRow.holds Try.pinned (OpenSpec.ofChange shapePartsWrong)

/-- 'affidavitlaw13.ShapeBack': WHATEVER THE INPUT: true; the input reads as it did. -/
def shapeBackSpec : ChangeSpec := { name := "shapeBack", fn := fun _ => fun
  | [d1, d2, d3, d4] => { results := [.lit (.bool true)], args := [d1, d2, d3, d4] }
  | _ => none }
def shapeBackRow : OpenClaim := { program := "ytmalpmnmknpphaa", sum := "a28793cca0dbeabd77c690c889927aee222fb67665098eb86b08c02e9b7e8637", func := "affidavit/affidavitlaw13.ShapeBack", spec := "shapeBack", unfollowed := true, recurses := true, named := ["math/bits.divideError", "math/bits.overflowError"], apart := false }
def ShapeBackSaid : Prop := shapeBackRow.holds Try.pinned (OpenSpec.ofChange shapeBackSpec)

/-- ITS FALSE NEIGHBOUR: 'it returns false'. Refute it at one input. -/
def shapeBackWrong : ChangeSpec := { name := "shapeBack", fn := fun _ => fun
  | [d1, d2, d3, d4] => { results := [.lit (.bool false)], args := [d1, d2, d3, d4] }
  | _ => none }
def ShapeBackWrongFalsely : Prop := shapeBackRow.holds Try.pinned (OpenSpec.ofChange shapeBackWrong)

/-- 'affidavitlaw13.ShapeUnits': WHATEVER THE INPUT: true; the input reads as it did. -/
def shapeUnitsSpec : ChangeSpec := { name := "shapeUnits", fn := fun _ => fun
  | [d1, d2, d3] => { results := [.lit (.bool true)], args := [d1, d2, d3] }
  | _ => none }
def shapeUnitsRow : OpenClaim := { program := "ytmalpmnmknpphaa", sum := "a28793cca0dbeabd77c690c889927aee222fb67665098eb86b08c02e9b7e8637", func := "affidavit/affidavitlaw13.ShapeUnits", spec := "shapeUnits", unfollowed := true, recurses := true, named := ["math/bits.divideError", "math/bits.overflowError"], apart := false }
def ShapeUnitsSaid : Prop := shapeUnitsRow.holds Try.pinned (OpenSpec.ofChange shapeUnitsSpec)

/-- ITS FALSE NEIGHBOUR: 'it returns false'. Refute it at one input. -/
def shapeUnitsWrong : ChangeSpec := { name := "shapeUnits", fn := fun _ => fun
  | [d1, d2, d3] => { results := [.lit (.bool false)], args := [d1, d2, d3] }
  | _ => none }
def ShapeUnitsWrongFalsely : Prop := shapeUnitsRow.holds Try.pinned (OpenSpec.ofChange shapeUnitsWrong)

/-- 'affidavitlaw13.ShapeOne': WHATEVER THE INPUT: true; the input reads as it did. -/
def shapeOneSpec : ChangeSpec := { name := "shapeOne", fn := fun _ => fun
  | [d1, d2, d3, d4] => { results := [.lit (.bool true)], args := [d1, d2, d3, d4] }
  | _ => none }
def shapeOneRow : OpenClaim := { program := "ytmalpmnmknpphaa", sum := "a28793cca0dbeabd77c690c889927aee222fb67665098eb86b08c02e9b7e8637", func := "affidavit/affidavitlaw13.ShapeOne", spec := "shapeOne", unfollowed := true, recurses := true, named := ["math/bits.divideError", "math/bits.overflowError"], apart := false }
def ShapeOneSaid : Prop := shapeOneRow.holds Try.pinned (OpenSpec.ofChange shapeOneSpec)

/-- ITS FALSE NEIGHBOUR: 'it returns false'. Refute it at one input. -/
def shapeOneWrong : ChangeSpec := { name := "shapeOne", fn := fun _ => fun
  | [d1, d2, d3, d4] => { results := [.lit (.bool false)], args := [d1, d2, d3, d4] }
  | _ => none }
def ShapeOneWrongFalsely : Prop := shapeOneRow.holds Try.pinned (OpenSpec.ofChange shapeOneWrong)

/- THE SECOND FORM. 'bulk': how many values and letters a reading holds, each counted each time it is reached (what is shared counts as often as it is met; a slice's spare places count too). A statement '..UptoSaid' is the law's where the arguments, and the package variables that the reading takes, are together of bulk at most 1048576: NARROWER than '..Said'. Prove '..Said' where nothing that the law and all that it calls make is longer than what came in: it says more and counts as full. Else prove '..UptoSaid'. A law counts once. -/
mutual
def uptoBulk {H : Type} : DataW H → Nat
  | .lit (.string bytes) => bytes.length + 1
  | .lit _ => 1
  | .nil => 1
  | .ptr d => uptoBulk d + 1
  | .slice elems spare => uptoBulkAll elems + uptoBulkAll spare + 1
  | .agg parts => uptoBulkAll parts + 1
  | .iface _ d => uptoBulk d + 1
  | .map entries => uptoBulkEntries entries + 1
  | .held _ => 1
def uptoBulkAll {H : Type} : List (DataW H) → Nat
  | [] => 0
  | d :: r => uptoBulk d + uptoBulkAll r
def uptoBulkEntries {H : Type} : List (Lit × DataW H) → Nat
  | [] => 0
  | x :: r => uptoBulkEntry x + uptoBulkEntries r
def uptoBulkEntry {H : Type} : Lit × DataW H → Nat
  | (.string bytes, d) => bytes.length + uptoBulk d + 1
  | (_, d) => uptoBulk d + 1
 end
def uptoSmall : (H : Type) → List (DataW H) → Bool := fun _ ds => decide (uptoBulkAll ds ≤ 1048576)
def OpenSpec.upto (s : _root_.Go.ChangeSpec) : _root_.Go.OpenSpec := { _root_.Go.OpenSpec.ofChange s with cond := some uptoSmall }

/-- 'affidavitlaw12.FoldParts', WHERE WHAT IT READS IS OF BULK AT MOST 1048576: true; the input reads as it did. -/
def foldPartsUptoRow : OpenClaim := { program := "ytmalpmnmknpphaa", sum := "a28793cca0dbeabd77c690c889927aee222fb67665098eb86b08c02e9b7e8637", func := "affidavit/affidavitlaw12.FoldParts", spec := "foldParts", unfollowed := true, recurses := true, named := ["math/bits.divideError", "math/bits.overflowError"], apart := false, narrowed := true }
def FoldPartsUptoSaid : Prop := foldPartsUptoRow.holds Try.pinned (OpenSpec.upto foldPartsSpec)

/-- 'affidavitlaw12.FoldSides', WHERE WHAT IT READS IS OF BULK AT MOST 1048576: true; the input reads as it did. -/
def foldSidesUptoRow : OpenClaim := { program := "ytmalpmnmknpphaa", sum := "a28793cca0dbeabd77c690c889927aee222fb67665098eb86b08c02e9b7e8637", func := "affidavit/affidavitlaw12.FoldSides", spec := "foldSides", unfollowed := true, recurses := true, named := ["math/bits.divideError", "math/bits.overflowError"], apart := false, narrowed := true }
def FoldSidesUptoSaid : Prop := foldSidesUptoRow.holds Try.pinned (OpenSpec.upto foldSidesSpec)

/-- 'affidavitlaw14.WitnessParts', WHERE WHAT IT READS IS OF BULK AT MOST 1048576: true; the input reads as it did. -/
def witnessPartsUptoRow : OpenClaim := { program := "ytmalpmnmknpphaa", sum := "a28793cca0dbeabd77c690c889927aee222fb67665098eb86b08c02e9b7e8637", func := "affidavit/affidavitlaw14.WitnessParts", spec := "witnessParts", unfollowed := true, recurses := true, named := ["math/bits.divideError", "math/bits.overflowError"], apart := false, narrowed := true }
def WitnessPartsUptoSaid : Prop := witnessPartsUptoRow.holds Try.pinned (OpenSpec.upto witnessPartsSpec)

/-- 'affidavitlaw14.WitnessShows', WHERE WHAT IT READS IS OF BULK AT MOST 1048576: true; the input reads as it did. -/
def witnessShowsUptoRow : OpenClaim := { program := "ytmalpmnmknpphaa", sum := "a28793cca0dbeabd77c690c889927aee222fb67665098eb86b08c02e9b7e8637", func := "affidavit/affidavitlaw14.WitnessShows", spec := "witnessShows", unfollowed := true, recurses := true, named := ["math/bits.divideError", "math/bits.overflowError"], apart := false, narrowed := true }
def WitnessShowsUptoSaid : Prop := witnessShowsUptoRow.holds Try.pinned (OpenSpec.upto witnessShowsSpec)

/-- 'affidavitlaw13.ShapeParts', WHERE WHAT IT READS IS OF BULK AT MOST 1048576: true; the input reads as it did. -/
def shapePartsUptoRow : OpenClaim := { program := "ytmalpmnmknpphaa", sum := "a28793cca0dbeabd77c690c889927aee222fb67665098eb86b08c02e9b7e8637", func := "affidavit/affidavitlaw13.ShapeParts", spec := "shapeParts", unfollowed := true, recurses := true, named := ["math/bits.divideError", "math/bits.overflowError"], apart := false, narrowed := true }
def ShapePartsUptoSaid : Prop := shapePartsUptoRow.holds Try.pinned (OpenSpec.upto shapePartsSpec)

/-- 'affidavitlaw13.ShapeBack', WHERE WHAT IT READS IS OF BULK AT MOST 1048576: true; the input reads as it did. -/
def shapeBackUptoRow : OpenClaim := { program := "ytmalpmnmknpphaa", sum := "a28793cca0dbeabd77c690c889927aee222fb67665098eb86b08c02e9b7e8637", func := "affidavit/affidavitlaw13.ShapeBack", spec := "shapeBack", unfollowed := true, recurses := true, named := ["math/bits.divideError", "math/bits.overflowError"], apart := false, narrowed := true }
def ShapeBackUptoSaid : Prop := shapeBackUptoRow.holds Try.pinned (OpenSpec.upto shapeBackSpec)

/-- 'affidavitlaw13.ShapeUnits', WHERE WHAT IT READS IS OF BULK AT MOST 1048576: true; the input reads as it did. -/
def shapeUnitsUptoRow : OpenClaim := { program := "ytmalpmnmknpphaa", sum := "a28793cca0dbeabd77c690c889927aee222fb67665098eb86b08c02e9b7e8637", func := "affidavit/affidavitlaw13.ShapeUnits", spec := "shapeUnits", unfollowed := true, recurses := true, named := ["math/bits.divideError", "math/bits.overflowError"], apart := false, narrowed := true }
def ShapeUnitsUptoSaid : Prop := shapeUnitsUptoRow.holds Try.pinned (OpenSpec.upto shapeUnitsSpec)

/-- 'affidavitlaw13.ShapeOne', WHERE WHAT IT READS IS OF BULK AT MOST 1048576: true; the input reads as it did. -/
def shapeOneUptoRow : OpenClaim := { program := "ytmalpmnmknpphaa", sum := "a28793cca0dbeabd77c690c889927aee222fb67665098eb86b08c02e9b7e8637", func := "affidavit/affidavitlaw13.ShapeOne", spec := "shapeOne", unfollowed := true, recurses := true, named := ["math/bits.divideError", "math/bits.overflowError"], apart := false, narrowed := true }
def ShapeOneUptoSaid : Prop := shapeOneUptoRow.holds Try.pinned (OpenSpec.upto shapeOneSpec)

end Rows
end Go.Proofs.Ytmalpmnmknpphaa
