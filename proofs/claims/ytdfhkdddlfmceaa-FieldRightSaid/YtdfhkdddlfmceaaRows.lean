/-
  No cell of these rows narrows 'for every input' (looked for: loops, veiled, ifaces, maps, wideKeys, modest, calm, conditions, laid).
  DERIVED. THE GIVEN ROWS OF THIS SEAT. 10 by the template 'for every input the law returns true; each argument reads behind the call as it read before'; 0 by the template 'total and deterministic' (their statements: YtdfhkdddlfmceaaTotals.lean).
  GIVEN WITH THE SEED: the statements are not yours to turn. If you find one false, say at which input.
  Laid BY PROGRAM, IN A SANDBOX (cutbox-rows.mjs): the forced cells as the released guide's own fill.sh prints them over the translation c1d2c68012b18a86… (all of the seat's roots in one cut). By AI agents, Wed Nov 11 2026. No macro, syntax, notation, axiom, sorry.
-/
import Derived.Test.YtdfhkdddlfmceaaChecked
import GoSem.Claim
import GoSem.ClaimJoined
import GoSem.ClaimMapViews
import Derived.JoinedTies
import Derived.KernelRfl
namespace Go.Proofs.Ytdfhkdddlfmceaa
/- THE CELL 'sum', in the pinned program and in every row, IS THE sha256 OF THE DUMP (.gsa) THAT YtdfhkdddlfmceaaProg.lean LOADS. Nothing in Lean hashes anything: it is a label: what it is worth is what the hold of that sum in a sandbox is worth. -/
noncomputable def Try.pinned : Pinned := { name := "ytdfhkdddlfmceaa", sum := "c1d2c68012b18a86fbbe32464efe58656261026f05a2640b51e313cfe346f1bc", checked := Try.checked }
namespace Rows
def none {H : Type} : Left H := { results := [], args := [] }

/-- 'affidavitlaw10.TapeRight': WHATEVER THE INPUT: true; the input reads as it did. -/
def tapeRightSpec : ChangeSpec := { name := "tapeRight", fn := fun _ => fun
  | [d1, d2, d3, d4] => { results := [.lit (.bool true)], args := [d1, d2, d3, d4] }
  | _ => none }
def tapeRightRow : OpenClaim := { program := "ytdfhkdddlfmceaa", sum := "c1d2c68012b18a86fbbe32464efe58656261026f05a2640b51e313cfe346f1bc", func := "affidavit/affidavitlaw10.TapeRight", spec := "tapeRight", unfollowed := true, recurses := true, apart := false }
def TapeRightSaid : Prop := tapeRightRow.holds Try.pinned (OpenSpec.ofChange tapeRightSpec)

/-- ITS FALSE NEIGHBOUR: 'it returns false'. Refute it at one input. -/
def tapeRightWrong : ChangeSpec := { name := "tapeRight", fn := fun _ => fun
  | [d1, d2, d3, d4] => { results := [.lit (.bool false)], args := [d1, d2, d3, d4] }
  | _ => none }
def TapeRightWrongFalsely : Prop := tapeRightRow.holds Try.pinned (OpenSpec.ofChange tapeRightWrong)

/-- 'affidavitlaw10.TapeEven': WHATEVER THE INPUT: true; the input reads as it did. -/
def tapeEvenSpec : ChangeSpec := { name := "tapeEven", fn := fun _ => fun
  | [d1, d2] => { results := [.lit (.bool true)], args := [d1, d2] }
  | _ => none }
def tapeEvenRow : OpenClaim := { program := "ytdfhkdddlfmceaa", sum := "c1d2c68012b18a86fbbe32464efe58656261026f05a2640b51e313cfe346f1bc", func := "affidavit/affidavitlaw10.TapeEven", spec := "tapeEven", unfollowed := true, recurses := true, apart := false }
def TapeEvenSaid : Prop := tapeEvenRow.holds Try.pinned (OpenSpec.ofChange tapeEvenSpec)

/-- ITS FALSE NEIGHBOUR: 'it returns false'. Refute it at one input. -/
def tapeEvenWrong : ChangeSpec := { name := "tapeEven", fn := fun _ => fun
  | [d1, d2] => { results := [.lit (.bool false)], args := [d1, d2] }
  | _ => none }
def TapeEvenWrongFalsely : Prop := tapeEvenRow.holds Try.pinned (OpenSpec.ofChange tapeEvenWrong)

/-- 'affidavitlaw10.TapeSame': WHATEVER THE INPUT: true; the input reads as it did. -/
def tapeSameSpec : ChangeSpec := { name := "tapeSame", fn := fun _ => fun
  | [d1, d2, d3, d4, d5] => { results := [.lit (.bool true)], args := [d1, d2, d3, d4, d5] }
  | _ => none }
def tapeSameRow : OpenClaim := { program := "ytdfhkdddlfmceaa", sum := "c1d2c68012b18a86fbbe32464efe58656261026f05a2640b51e313cfe346f1bc", func := "affidavit/affidavitlaw10.TapeSame", spec := "tapeSame", unfollowed := true, recurses := true, apart := false }
def TapeSameSaid : Prop := tapeSameRow.holds Try.pinned (OpenSpec.ofChange tapeSameSpec)

/-- ITS FALSE NEIGHBOUR: 'it returns false'. Refute it at one input. -/
def tapeSameWrong : ChangeSpec := { name := "tapeSame", fn := fun _ => fun
  | [d1, d2, d3, d4, d5] => { results := [.lit (.bool false)], args := [d1, d2, d3, d4, d5] }
  | _ => none }
def TapeSameWrongFalsely : Prop := tapeSameRow.holds Try.pinned (OpenSpec.ofChange tapeSameWrong)

/-- 'affidavitlaw10.TapeLeft': WHATEVER THE INPUT: true; the input reads as it did. -/
def tapeLeftSpec : ChangeSpec := { name := "tapeLeft", fn := fun _ => fun
  | [d1, d2, d3] => { results := [.lit (.bool true)], args := [d1, d2, d3] }
  | _ => none }
def tapeLeftRow : OpenClaim := { program := "ytdfhkdddlfmceaa", sum := "c1d2c68012b18a86fbbe32464efe58656261026f05a2640b51e313cfe346f1bc", func := "affidavit/affidavitlaw10.TapeLeft", spec := "tapeLeft", unfollowed := true, recurses := true, apart := false }
def TapeLeftSaid : Prop := tapeLeftRow.holds Try.pinned (OpenSpec.ofChange tapeLeftSpec)

/-- ITS FALSE NEIGHBOUR: 'it returns false'. Refute it at one input. -/
def tapeLeftWrong : ChangeSpec := { name := "tapeLeft", fn := fun _ => fun
  | [d1, d2, d3] => { results := [.lit (.bool false)], args := [d1, d2, d3] }
  | _ => none }
def TapeLeftWrongFalsely : Prop := tapeLeftRow.holds Try.pinned (OpenSpec.ofChange tapeLeftWrong)

/-- 'affidavitlaw01.FieldPowers': WHATEVER THE INPUT: true; the input reads as it did. -/
def fieldPowersSpec : ChangeSpec := { name := "fieldPowers", fn := fun _ => fun
  | [d1, d2, d3, d4] => { results := [.lit (.bool true)], args := [d1, d2, d3, d4] }
  | _ => none }
def fieldPowersRow : OpenClaim := { program := "ytdfhkdddlfmceaa", sum := "c1d2c68012b18a86fbbe32464efe58656261026f05a2640b51e313cfe346f1bc", func := "affidavit/affidavitlaw01.FieldPowers", spec := "fieldPowers", unfollowed := true, recurses := true, named := ["math/bits.divideError", "math/bits.overflowError"], apart := false }
def FieldPowersSaid : Prop := fieldPowersRow.holds Try.pinned (OpenSpec.ofChange fieldPowersSpec)

/-- ITS FALSE NEIGHBOUR: 'it returns false'. Refute it at one input. -/
def fieldPowersWrong : ChangeSpec := { name := "fieldPowers", fn := fun _ => fun
  | [d1, d2, d3, d4] => { results := [.lit (.bool false)], args := [d1, d2, d3, d4] }
  | _ => none }
def FieldPowersWrongFalsely : Prop := fieldPowersRow.holds Try.pinned (OpenSpec.ofChange fieldPowersWrong)

/-- 'affidavitlaw01.FieldDots': WHATEVER THE INPUT: true; the input reads as it did. -/
def fieldDotsSpec : ChangeSpec := { name := "fieldDots", fn := fun _ => fun
  | [d1, d2, d3, d4] => { results := [.lit (.bool true)], args := [d1, d2, d3, d4] }
  | _ => none }
def fieldDotsRow : OpenClaim := { program := "ytdfhkdddlfmceaa", sum := "c1d2c68012b18a86fbbe32464efe58656261026f05a2640b51e313cfe346f1bc", func := "affidavit/affidavitlaw01.FieldDots", spec := "fieldDots", unfollowed := true, recurses := true, named := ["math/bits.divideError", "math/bits.overflowError"], apart := false }
def FieldDotsSaid : Prop := fieldDotsRow.holds Try.pinned (OpenSpec.ofChange fieldDotsSpec)

/-- ITS FALSE NEIGHBOUR: 'it returns false'. Refute it at one input. -/
def fieldDotsWrong : ChangeSpec := { name := "fieldDots", fn := fun _ => fun
  | [d1, d2, d3, d4] => { results := [.lit (.bool false)], args := [d1, d2, d3, d4] }
  | _ => none }
def FieldDotsWrongFalsely : Prop := fieldDotsRow.holds Try.pinned (OpenSpec.ofChange fieldDotsWrong)

/-- 'affidavitlaw01.FieldNorm': WHATEVER THE INPUT: true; the input reads as it did. -/
def fieldNormSpec : ChangeSpec := { name := "fieldNorm", fn := fun _ => fun
  | [d1, d2, d3, d4] => { results := [.lit (.bool true)], args := [d1, d2, d3, d4] }
  | _ => none }
def fieldNormRow : OpenClaim := { program := "ytdfhkdddlfmceaa", sum := "c1d2c68012b18a86fbbe32464efe58656261026f05a2640b51e313cfe346f1bc", func := "affidavit/affidavitlaw01.FieldNorm", spec := "fieldNorm", unfollowed := true, recurses := true, named := ["math/bits.divideError", "math/bits.overflowError"], apart := false }
def FieldNormSaid : Prop := fieldNormRow.holds Try.pinned (OpenSpec.ofChange fieldNormSpec)

/-- ITS FALSE NEIGHBOUR: 'it returns false'. Refute it at one input. -/
def fieldNormWrong : ChangeSpec := { name := "fieldNorm", fn := fun _ => fun
  | [d1, d2, d3, d4] => { results := [.lit (.bool false)], args := [d1, d2, d3, d4] }
  | _ => none }
def FieldNormWrongFalsely : Prop := fieldNormRow.holds Try.pinned (OpenSpec.ofChange fieldNormWrong)

/-- 'affidavitlaw01.FieldRing': WHATEVER THE INPUT: true; the input reads as it did. -/
def fieldRingSpec : ChangeSpec := { name := "fieldRing", fn := fun _ => fun
  | [d1, d2, d3, d4] => { results := [.lit (.bool true)], args := [d1, d2, d3, d4] }
  | _ => none }
def fieldRingRow : OpenClaim := { program := "ytdfhkdddlfmceaa", sum := "c1d2c68012b18a86fbbe32464efe58656261026f05a2640b51e313cfe346f1bc", func := "affidavit/affidavitlaw01.FieldRing", spec := "fieldRing", unfollowed := true, recurses := true, named := ["math/bits.divideError", "math/bits.overflowError"], apart := false }
def FieldRingSaid : Prop := fieldRingRow.holds Try.pinned (OpenSpec.ofChange fieldRingSpec)

/-- ITS FALSE NEIGHBOUR: 'it returns false'. Refute it at one input. -/
def fieldRingWrong : ChangeSpec := { name := "fieldRing", fn := fun _ => fun
  | [d1, d2, d3, d4] => { results := [.lit (.bool false)], args := [d1, d2, d3, d4] }
  | _ => none }
def FieldRingWrongFalsely : Prop := fieldRingRow.holds Try.pinned (OpenSpec.ofChange fieldRingWrong)

/-- 'affidavitlaw01.FieldTurned': WHATEVER THE INPUT: true; the input reads as it did. -/
def fieldTurnedSpec : ChangeSpec := { name := "fieldTurned", fn := fun _ => fun
  | [d1, d2, d3] => { results := [.lit (.bool true)], args := [d1, d2, d3] }
  | _ => none }
def fieldTurnedRow : OpenClaim := { program := "ytdfhkdddlfmceaa", sum := "c1d2c68012b18a86fbbe32464efe58656261026f05a2640b51e313cfe346f1bc", func := "affidavit/affidavitlaw01.FieldTurned", spec := "fieldTurned", unfollowed := true, recurses := true, named := ["math/bits.divideError", "math/bits.overflowError"], apart := false }
def FieldTurnedSaid : Prop := fieldTurnedRow.holds Try.pinned (OpenSpec.ofChange fieldTurnedSpec)

/-- ITS FALSE NEIGHBOUR: 'it returns false'. Refute it at one input. -/
def fieldTurnedWrong : ChangeSpec := { name := "fieldTurned", fn := fun _ => fun
  | [d1, d2, d3] => { results := [.lit (.bool false)], args := [d1, d2, d3] }
  | _ => none }
def FieldTurnedWrongFalsely : Prop := fieldTurnedRow.holds Try.pinned (OpenSpec.ofChange fieldTurnedWrong)

/-- 'affidavitlaw01.FieldRight': WHATEVER THE INPUT: true; the input reads as it did. -/
def fieldRightSpec : ChangeSpec := { name := "fieldRight", fn := fun _ => fun
  | [d1, d2, d3, d4, d5, d6] => { results := [.lit (.bool true)], args := [d1, d2, d3, d4, d5, d6] }
  | _ => none }
def fieldRightRow : OpenClaim := { program := "ytdfhkdddlfmceaa", sum := "c1d2c68012b18a86fbbe32464efe58656261026f05a2640b51e313cfe346f1bc", func := "affidavit/affidavitlaw01.FieldRight", spec := "fieldRight", unfollowed := true, recurses := true, named := ["math/bits.divideError", "math/bits.overflowError"], apart := false }
def FieldRightSaid : Prop := fieldRightRow.holds Try.pinned (OpenSpec.ofChange fieldRightSpec)

/-- ITS FALSE NEIGHBOUR: 'it returns false'. Refute it at one input. -/
def fieldRightWrong : ChangeSpec := { name := "fieldRight", fn := fun _ => fun
  | [d1, d2, d3, d4, d5, d6] => { results := [.lit (.bool false)], args := [d1, d2, d3, d4, d5, d6] }
  | _ => none }
def FieldRightWrongFalsely : Prop := fieldRightRow.holds Try.pinned (OpenSpec.ofChange fieldRightWrong)

/- THE SECOND FORM. 'bulk': how many values and letters a reading holds, each counted each time it is reached (what is shared counts as often as it is met; a slice's spare places count too). A statement '..UptoSaid' is the law's where the arguments, and the package variables that the reading takes, are together of bulk at most 1048576: NARROWER than '..Said'. Prove '..Said' where nothing that the law and all that it calls make is longer than what came in: it says more and counts as full. Else prove '..UptoSaid'. A law counts once. -/
mutual
def uptoBulk {H : Type} : DataW H → Nat
  | .lit (.string bytes) => bytes.length + 1
  | .lit _ => 1
  | .nil => 1
  | .ptr d => uptoBulk d + 1
  | .slice elems spare => uptoBulkAll elems + uptoBulkAll spare + 1
  | .agg parts => uptoBulkAll parts + 1
  | .iface _ d => uptoBulk d + 1
  | .map entries => uptoBulkEntries entries + 1
  | .held _ => 1
def uptoBulkAll {H : Type} : List (DataW H) → Nat
  | [] => 0
  | d :: r => uptoBulk d + uptoBulkAll r
def uptoBulkEntries {H : Type} : List (Lit × DataW H) → Nat
  | [] => 0
  | x :: r => uptoBulkEntry x + uptoBulkEntries r
def uptoBulkEntry {H : Type} : Lit × DataW H → Nat
  | (.string bytes, d) => bytes.length + uptoBulk d + 1
  | (_, d) => uptoBulk d + 1
 end
def uptoSmall : (H : Type) → List (DataW H) → Bool := fun _ ds => decide (uptoBulkAll ds ≤ 1048576)
def OpenSpec.upto (s : _root_.Go.ChangeSpec) : _root_.Go.OpenSpec := { _root_.Go.OpenSpec.ofChange s with cond := some uptoSmall }

/-- 'affidavitlaw10.TapeRight', WHERE WHAT IT READS IS OF BULK AT MOST 1048576: true; the input reads as it did. -/
def tapeRightUptoRow : OpenClaim := { program := "ytdfhkdddlfmceaa", sum := "c1d2c68012b18a86fbbe32464efe58656261026f05a2640b51e313cfe346f1bc", func := "affidavit/affidavitlaw10.TapeRight", spec := "tapeRight", unfollowed := true, recurses := true, apart := false, narrowed := true }
def TapeRightUptoSaid : Prop := tapeRightUptoRow.holds Try.pinned (OpenSpec.upto tapeRightSpec)

/-- 'affidavitlaw10.TapeEven', WHERE WHAT IT READS IS OF BULK AT MOST 1048576: true; the input reads as it did. -/
def tapeEvenUptoRow : OpenClaim := { program := "ytdfhkdddlfmceaa", sum := "c1d2c68012b18a86fbbe32464efe58656261026f05a2640b51e313cfe346f1bc", func := "affidavit/affidavitlaw10.TapeEven", spec := "tapeEven", unfollowed := true, recurses := true, apart := false, narrowed := true }
def TapeEvenUptoSaid : Prop := tapeEvenUptoRow.holds Try.pinned (OpenSpec.upto tapeEvenSpec)

/-- 'affidavitlaw10.TapeSame', WHERE WHAT IT READS IS OF BULK AT MOST 1048576: true; the input reads as it did. -/
def tapeSameUptoRow : OpenClaim := { program := "ytdfhkdddlfmceaa", sum := "c1d2c68012b18a86fbbe32464efe58656261026f05a2640b51e313cfe346f1bc", func := "affidavit/affidavitlaw10.TapeSame", spec := "tapeSame", unfollowed := true, recurses := true, apart := false, narrowed := true }
def TapeSameUptoSaid : Prop := tapeSameUptoRow.holds Try.pinned (OpenSpec.upto tapeSameSpec)

/-- 'affidavitlaw10.TapeLeft', WHERE WHAT IT READS IS OF BULK AT MOST 1048576: true; the input reads as it did. -/
def tapeLeftUptoRow : OpenClaim := { program := "ytdfhkdddlfmceaa", sum := "c1d2c68012b18a86fbbe32464efe58656261026f05a2640b51e313cfe346f1bc", func := "affidavit/affidavitlaw10.TapeLeft", spec := "tapeLeft", unfollowed := true, recurses := true, apart := false, narrowed := true }
def TapeLeftUptoSaid : Prop := tapeLeftUptoRow.holds Try.pinned (OpenSpec.upto tapeLeftSpec)

/-- 'affidavitlaw01.FieldPowers', WHERE WHAT IT READS IS OF BULK AT MOST 1048576: true; the input reads as it did. -/
def fieldPowersUptoRow : OpenClaim := { program := "ytdfhkdddlfmceaa", sum := "c1d2c68012b18a86fbbe32464efe58656261026f05a2640b51e313cfe346f1bc", func := "affidavit/affidavitlaw01.FieldPowers", spec := "fieldPowers", unfollowed := true, recurses := true, named := ["math/bits.divideError", "math/bits.overflowError"], apart := false, narrowed := true }
def FieldPowersUptoSaid : Prop := fieldPowersUptoRow.holds Try.pinned (OpenSpec.upto fieldPowersSpec)

/-- 'affidavitlaw01.FieldDots', WHERE WHAT IT READS IS OF BULK AT MOST 1048576: true; the input reads as it did. -/
def fieldDotsUptoRow : OpenClaim := { program := "ytdfhkdddlfmceaa", sum := "c1d2c68012b18a86fbbe32464efe58656261026f05a2640b51e313cfe346f1bc", func := "affidavit/affidavitlaw01.FieldDots", spec := "fieldDots", unfollowed := true, recurses := true, named := ["math/bits.divideError", "math/bits.overflowError"], apart := false, narrowed := true }
def FieldDotsUptoSaid : Prop := fieldDotsUptoRow.holds Try.pinned (OpenSpec.upto fieldDotsSpec)

/-- 'affidavitlaw01.FieldNorm', WHERE WHAT IT READS IS OF BULK AT MOST 1048576: true; the input reads as it did. -/
def fieldNormUptoRow : OpenClaim := { program := "ytdfhkdddlfmceaa", sum := "c1d2c68012b18a86fbbe32464efe58656261026f05a2640b51e313cfe346f1bc", func := "affidavit/affidavitlaw01.FieldNorm", spec := "fieldNorm", unfollowed := true, recurses := true, named := ["math/bits.divideError", "math/bits.overflowError"], apart := false, narrowed := true }
def FieldNormUptoSaid : Prop := fieldNormUptoRow.holds Try.pinned (OpenSpec.upto fieldNormSpec)

/-- 'affidavitlaw01.FieldRing', WHERE WHAT IT READS IS OF BULK AT MOST 1048576: true; the input reads as it did. -/
def fieldRingUptoRow : OpenClaim := { program := "ytdfhkdddlfmceaa", sum := "c1d2c68012b18a86fbbe32464efe58656261026f05a2640b51e313cfe346f1bc", func := "affidavit/affidavitlaw01.FieldRing", spec := "fieldRing", unfollowed := true, recurses := true, named := ["math/bits.divideError", "math/bits.overflowError"], apart := false, narrowed := true }
def FieldRingUptoSaid : Prop := fieldRingUptoRow.holds Try.pinned (OpenSpec.upto fieldRingSpec)

/-- 'affidavitlaw01.FieldTurned', WHERE WHAT IT READS IS OF BULK AT MOST 1048576: true; the input reads as it did. -/
def fieldTurnedUptoRow : OpenClaim := { program := "ytdfhkdddlfmceaa", sum := "c1d2c68012b18a86fbbe32464efe58656261026f05a2640b51e313cfe346f1bc", func := "affidavit/affidavitlaw01.FieldTurned", spec := "fieldTurned", unfollowed := true, recurses := true, named := ["math/bits.divideError", "math/bits.overflowError"], apart := false, narrowed := true }
def FieldTurnedUptoSaid : Prop := fieldTurnedUptoRow.holds Try.pinned (OpenSpec.upto fieldTurnedSpec)

/-- 'affidavitlaw01.FieldRight', WHERE WHAT IT READS IS OF BULK AT MOST 1048576: true; the input reads as it did. -/
def fieldRightUptoRow : OpenClaim := { program := "ytdfhkdddlfmceaa", sum := "c1d2c68012b18a86fbbe32464efe58656261026f05a2640b51e313cfe346f1bc", func := "affidavit/affidavitlaw01.FieldRight", spec := "fieldRight", unfollowed := true, recurses := true, named := ["math/bits.divideError", "math/bits.overflowError"], apart := false, narrowed := true }
def FieldRightUptoSaid : Prop := fieldRightUptoRow.holds Try.pinned (OpenSpec.upto fieldRightSpec)

end Rows
end Go.Proofs.Ytdfhkdddlfmceaa
