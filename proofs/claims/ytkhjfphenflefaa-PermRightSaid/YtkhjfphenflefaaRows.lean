/-
  No cell of these rows narrows 'for every input' (looked for: loops, veiled, ifaces, maps, wideKeys, modest, calm, conditions, laid).
  DERIVED. THE GIVEN ROWS OF THIS SEAT. 8 by the template 'for every input the law returns true; each argument reads behind the call as it read before'; 0 by the template 'total and deterministic' (their statements: YtkhjfphenflefaaTotals.lean).
  GIVEN WITH THE SEED: the statements are not yours to turn. If you find one false, say at which input.
  Laid BY PROGRAM, IN A SANDBOX (cutbox-rows.mjs): the forced cells as the released guide's own fill.sh prints them over the translation ef253374de8ef63a… (all of the seat's roots in one cut). By AI agents, Wed Nov 11 2026. No macro, syntax, notation, axiom, sorry.
-/
import Derived.Test.YtkhjfphenflefaaChecked
import GoSem.Claim
import GoSem.ClaimJoined
import GoSem.ClaimMapViews
import Derived.JoinedTies
import Derived.KernelRfl
namespace Go.Proofs.Ytkhjfphenflefaa
/- THE CELL 'sum', in the pinned program and in every row, IS THE sha256 OF THE DUMP (.gsa) THAT YtkhjfphenflefaaProg.lean LOADS. Nothing in Lean hashes anything: it is a label: what it is worth is what the hold of that sum in a sandbox is worth. -/
noncomputable def Try.pinned : Pinned := { name := "ytkhjfphenflefaa", sum := "ef253374de8ef63a3aa090925435f3484b044ccf669e5a51906a301d4330a205", checked := Try.checked }
namespace Rows
def none {H : Type} : Left H := { results := [], args := [] }

/-- 'affidavitlaw06.PermSigns': WHATEVER THE INPUT: true; the input reads as it did. -/
def permSignsSpec : ChangeSpec := { name := "permSigns", fn := fun _ => fun
  | [d1, d2, d3, d4] => { results := [.lit (.bool true)], args := [d1, d2, d3, d4] }
  | _ => none }
def permSignsRow : OpenClaim := { program := "ytkhjfphenflefaa", sum := "ef253374de8ef63a3aa090925435f3484b044ccf669e5a51906a301d4330a205", func := "affidavit/affidavitlaw06.PermSigns", spec := "permSigns", unfollowed := true, recurses := true, apart := false }
def PermSignsSaid : Prop := permSignsRow.holds Try.pinned (OpenSpec.ofChange permSignsSpec)

/-- ITS FALSE NEIGHBOUR: 'it returns false'. Refute it at one input. -/
def permSignsWrong : ChangeSpec := { name := "permSigns", fn := fun _ => fun
  | [d1, d2, d3, d4] => { results := [.lit (.bool false)], args := [d1, d2, d3, d4] }
  | _ => none }
def PermSignsWrongFalsely : Prop := permSignsRow.holds Try.pinned (OpenSpec.ofChange permSignsWrong)

/-- 'affidavitlaw06.PermDone': WHATEVER THE INPUT: true; the input reads as it did. -/
def permDoneSpec : ChangeSpec := { name := "permDone", fn := fun _ => fun
  | [d1, d2, d3] => { results := [.lit (.bool true)], args := [d1, d2, d3] }
  | _ => none }
def permDoneRow : OpenClaim := { program := "ytkhjfphenflefaa", sum := "ef253374de8ef63a3aa090925435f3484b044ccf669e5a51906a301d4330a205", func := "affidavit/affidavitlaw06.PermDone", spec := "permDone", unfollowed := true, recurses := true, apart := false }
def PermDoneSaid : Prop := permDoneRow.holds Try.pinned (OpenSpec.ofChange permDoneSpec)

/-- ITS FALSE NEIGHBOUR: 'it returns false'. Refute it at one input. -/
def permDoneWrong : ChangeSpec := { name := "permDone", fn := fun _ => fun
  | [d1, d2, d3] => { results := [.lit (.bool false)], args := [d1, d2, d3] }
  | _ => none }
def PermDoneWrongFalsely : Prop := permDoneRow.holds Try.pinned (OpenSpec.ofChange permDoneWrong)

/-- 'affidavitlaw06.PermRight': WHATEVER THE INPUT: true; the input reads as it did. -/
def permRightSpec : ChangeSpec := { name := "permRight", fn := fun _ => fun
  | [d1, d2, d3, d4, d5] => { results := [.lit (.bool true)], args := [d1, d2, d3, d4, d5] }
  | _ => none }
def permRightRow : OpenClaim := { program := "ytkhjfphenflefaa", sum := "ef253374de8ef63a3aa090925435f3484b044ccf669e5a51906a301d4330a205", func := "affidavit/affidavitlaw06.PermRight", spec := "permRight", unfollowed := true, recurses := true, apart := false }
def PermRightSaid : Prop := permRightRow.holds Try.pinned (OpenSpec.ofChange permRightSpec)

/-- ITS FALSE NEIGHBOUR: 'it returns false'. Refute it at one input. -/
def permRightWrong : ChangeSpec := { name := "permRight", fn := fun _ => fun
  | [d1, d2, d3, d4, d5] => { results := [.lit (.bool false)], args := [d1, d2, d3, d4, d5] }
  | _ => none }
def PermRightWrongFalsely : Prop := permRightRow.holds Try.pinned (OpenSpec.ofChange permRightWrong)

/-- 'affidavitlaw06.PermMatrix': WHATEVER THE INPUT: true; the input reads as it did. -/
def permMatrixSpec : ChangeSpec := { name := "permMatrix", fn := fun _ => fun
  | [d1, d2] => { results := [.lit (.bool true)], args := [d1, d2] }
  | _ => none }
def permMatrixRow : OpenClaim := { program := "ytkhjfphenflefaa", sum := "ef253374de8ef63a3aa090925435f3484b044ccf669e5a51906a301d4330a205", func := "affidavit/affidavitlaw06.PermMatrix", spec := "permMatrix", unfollowed := true, recurses := true, named := ["math/bits.divideError", "math/bits.overflowError"], apart := false }
def PermMatrixSaid : Prop := permMatrixRow.holds Try.pinned (OpenSpec.ofChange permMatrixSpec)

/-- ITS FALSE NEIGHBOUR: 'it returns false'. Refute it at one input. -/
def permMatrixWrong : ChangeSpec := { name := "permMatrix", fn := fun _ => fun
  | [d1, d2] => { results := [.lit (.bool false)], args := [d1, d2] }
  | _ => none }
def PermMatrixWrongFalsely : Prop := permMatrixRow.holds Try.pinned (OpenSpec.ofChange permMatrixWrong)

/-- 'affidavitlaw11.FrameRight': WHATEVER THE INPUT: true; the input reads as it did. -/
def frameRightSpec : ChangeSpec := { name := "frameRight", fn := fun _ => fun
  | [d1, d2] => { results := [.lit (.bool true)], args := [d1, d2] }
  | _ => none }
def frameRightRow : OpenClaim := { program := "ytkhjfphenflefaa", sum := "ef253374de8ef63a3aa090925435f3484b044ccf669e5a51906a301d4330a205", func := "affidavit/affidavitlaw11.FrameRight", spec := "frameRight", unfollowed := true, recurses := true, apart := false }
def FrameRightSaid : Prop := frameRightRow.holds Try.pinned (OpenSpec.ofChange frameRightSpec)

/-- ITS FALSE NEIGHBOUR: 'it returns false'. Refute it at one input. -/
def frameRightWrong : ChangeSpec := { name := "frameRight", fn := fun _ => fun
  | [d1, d2] => { results := [.lit (.bool false)], args := [d1, d2] }
  | _ => none }
def FrameRightWrongFalsely : Prop := frameRightRow.holds Try.pinned (OpenSpec.ofChange frameRightWrong)

/-- 'affidavitlaw11.FrameBack': WHATEVER THE INPUT: true; the input reads as it did. -/
def frameBackSpec : ChangeSpec := { name := "frameBack", fn := fun _ => fun
  | [d1, d2, d3, d4] => { results := [.lit (.bool true)], args := [d1, d2, d3, d4] }
  | _ => none }
def frameBackRow : OpenClaim := { program := "ytkhjfphenflefaa", sum := "ef253374de8ef63a3aa090925435f3484b044ccf669e5a51906a301d4330a205", func := "affidavit/affidavitlaw11.FrameBack", spec := "frameBack", unfollowed := true, recurses := true, apart := false }
def FrameBackSaid : Prop := frameBackRow.holds Try.pinned (OpenSpec.ofChange frameBackSpec)

/-- ITS FALSE NEIGHBOUR: 'it returns false'. Refute it at one input. -/
def frameBackWrong : ChangeSpec := { name := "frameBack", fn := fun _ => fun
  | [d1, d2, d3, d4] => { results := [.lit (.bool false)], args := [d1, d2, d3, d4] }
  | _ => none }
def FrameBackWrongFalsely : Prop := frameBackRow.holds Try.pinned (OpenSpec.ofChange frameBackWrong)

/-- 'affidavitlaw11.FrameReads': WHATEVER THE INPUT: true; the input reads as it did. -/
def frameReadsSpec : ChangeSpec := { name := "frameReads", fn := fun _ => fun
  | [d1, d2] => { results := [.lit (.bool true)], args := [d1, d2] }
  | _ => none }
def frameReadsRow : OpenClaim := { program := "ytkhjfphenflefaa", sum := "ef253374de8ef63a3aa090925435f3484b044ccf669e5a51906a301d4330a205", func := "affidavit/affidavitlaw11.FrameReads", spec := "frameReads", unfollowed := true, recurses := true, apart := false }
def FrameReadsSaid : Prop := frameReadsRow.holds Try.pinned (OpenSpec.ofChange frameReadsSpec)

/-- ITS FALSE NEIGHBOUR: 'it returns false'. Refute it at one input. -/
def frameReadsWrong : ChangeSpec := { name := "frameReads", fn := fun _ => fun
  | [d1, d2] => { results := [.lit (.bool false)], args := [d1, d2] }
  | _ => none }
def FrameReadsWrongFalsely : Prop := frameReadsRow.holds Try.pinned (OpenSpec.ofChange frameReadsWrong)

/-- 'affidavitlaw11.FrameRow': WHATEVER THE INPUT: true; the input reads as it did. -/
def frameRowSpec : ChangeSpec := { name := "frameRow", fn := fun _ => fun
  | [d1, d2] => { results := [.lit (.bool true)], args := [d1, d2] }
  | _ => none }
def frameRowRow : OpenClaim := { program := "ytkhjfphenflefaa", sum := "ef253374de8ef63a3aa090925435f3484b044ccf669e5a51906a301d4330a205", func := "affidavit/affidavitlaw11.FrameRow", spec := "frameRow", unfollowed := true, recurses := true, apart := false }
def FrameRowSaid : Prop := frameRowRow.holds Try.pinned (OpenSpec.ofChange frameRowSpec)

/-- ITS FALSE NEIGHBOUR: 'it returns false'. Refute it at one input. -/
def frameRowWrong : ChangeSpec := { name := "frameRow", fn := fun _ => fun
  | [d1, d2] => { results := [.lit (.bool false)], args := [d1, d2] }
  | _ => none }
def FrameRowWrongFalsely : Prop := frameRowRow.holds Try.pinned (OpenSpec.ofChange frameRowWrong)

/- THE SECOND FORM. 'bulk': how many values and letters a reading holds, each counted each time it is reached (what is shared counts as often as it is met; a slice's spare places count too). A statement '..UptoSaid' is the law's where the arguments, and the package variables that the reading takes, are together of bulk at most 1048576: NARROWER than '..Said'. Prove '..Said' where nothing that the law and all that it calls make is longer than what came in: it says more and counts as full. Else prove '..UptoSaid'. A law counts once. -/
mutual
def uptoBulk {H : Type} : DataW H → Nat
  | .lit (.string bytes) => bytes.length + 1
  | .lit _ => 1
  | .nil => 1
  | .ptr d => uptoBulk d + 1
  | .slice elems spare => uptoBulkAll elems + uptoBulkAll spare + 1
  | .agg parts => uptoBulkAll parts + 1
  | .iface _ d => uptoBulk d + 1
  | .map entries => uptoBulkEntries entries + 1
  | .held _ => 1
def uptoBulkAll {H : Type} : List (DataW H) → Nat
  | [] => 0
  | d :: r => uptoBulk d + uptoBulkAll r
def uptoBulkEntries {H : Type} : List (Lit × DataW H) → Nat
  | [] => 0
  | x :: r => uptoBulkEntry x + uptoBulkEntries r
def uptoBulkEntry {H : Type} : Lit × DataW H → Nat
  | (.string bytes, d) => bytes.length + uptoBulk d + 1
  | (_, d) => uptoBulk d + 1
 end
def uptoSmall : (H : Type) → List (DataW H) → Bool := fun _ ds => decide (uptoBulkAll ds ≤ 1048576)
def OpenSpec.upto (s : _root_.Go.ChangeSpec) : _root_.Go.OpenSpec := { _root_.Go.OpenSpec.ofChange s with cond := some uptoSmall }

/-- 'affidavitlaw06.PermSigns', WHERE WHAT IT READS IS OF BULK AT MOST 1048576: true; the input reads as it did. -/
def permSignsUptoRow : OpenClaim := { program := "ytkhjfphenflefaa", sum := "ef253374de8ef63a3aa090925435f3484b044ccf669e5a51906a301d4330a205", func := "affidavit/affidavitlaw06.PermSigns", spec := "permSigns", unfollowed := true, recurses := true, apart := false, narrowed := true }
def PermSignsUptoSaid : Prop := permSignsUptoRow.holds Try.pinned (OpenSpec.upto permSignsSpec)

/-- 'affidavitlaw06.PermDone', WHERE WHAT IT READS IS OF BULK AT MOST 1048576: true; the input reads as it did. -/
def permDoneUptoRow : OpenClaim := { program := "ytkhjfphenflefaa", sum := "ef253374de8ef63a3aa090925435f3484b044ccf669e5a51906a301d4330a205", func := "affidavit/affidavitlaw06.PermDone", spec := "permDone", unfollowed := true, recurses := true, apart := false, narrowed := true }
def PermDoneUptoSaid : Prop := permDoneUptoRow.holds Try.pinned (OpenSpec.upto permDoneSpec)

/-- 'affidavitlaw06.PermRight', WHERE WHAT IT READS IS OF BULK AT MOST 1048576: true; the input reads as it did. -/
def permRightUptoRow : OpenClaim := { program := "ytkhjfphenflefaa", sum := "ef253374de8ef63a3aa090925435f3484b044ccf669e5a51906a301d4330a205", func := "affidavit/affidavitlaw06.PermRight", spec := "permRight", unfollowed := true, recurses := true, apart := false, narrowed := true }
def PermRightUptoSaid : Prop := permRightUptoRow.holds Try.pinned (OpenSpec.upto permRightSpec)

/-- 'affidavitlaw06.PermMatrix', WHERE WHAT IT READS IS OF BULK AT MOST 1048576: true; the input reads as it did. -/
def permMatrixUptoRow : OpenClaim := { program := "ytkhjfphenflefaa", sum := "ef253374de8ef63a3aa090925435f3484b044ccf669e5a51906a301d4330a205", func := "affidavit/affidavitlaw06.PermMatrix", spec := "permMatrix", unfollowed := true, recurses := true, named := ["math/bits.divideError", "math/bits.overflowError"], apart := false, narrowed := true }
def PermMatrixUptoSaid : Prop := permMatrixUptoRow.holds Try.pinned (OpenSpec.upto permMatrixSpec)

/-- 'affidavitlaw11.FrameRight', WHERE WHAT IT READS IS OF BULK AT MOST 1048576: true; the input reads as it did. -/
def frameRightUptoRow : OpenClaim := { program := "ytkhjfphenflefaa", sum := "ef253374de8ef63a3aa090925435f3484b044ccf669e5a51906a301d4330a205", func := "affidavit/affidavitlaw11.FrameRight", spec := "frameRight", unfollowed := true, recurses := true, apart := false, narrowed := true }
def FrameRightUptoSaid : Prop := frameRightUptoRow.holds Try.pinned (OpenSpec.upto frameRightSpec)

/-- 'affidavitlaw11.FrameBack', WHERE WHAT IT READS IS OF BULK AT MOST 1048576: true; the input reads as it did. -/
def frameBackUptoRow : OpenClaim := { program := "ytkhjfphenflefaa", sum := "ef253374de8ef63a3aa090925435f3484b044ccf669e5a51906a301d4330a205", func := "affidavit/affidavitlaw11.FrameBack", spec := "frameBack", unfollowed := true, recurses := true, apart := false, narrowed := true }
def FrameBackUptoSaid : Prop := frameBackUptoRow.holds Try.pinned (OpenSpec.upto frameBackSpec)

/-- 'affidavitlaw11.FrameReads', WHERE WHAT IT READS IS OF BULK AT MOST 1048576: true; the input reads as it did. -/
def frameReadsUptoRow : OpenClaim := { program := "ytkhjfphenflefaa", sum := "ef253374de8ef63a3aa090925435f3484b044ccf669e5a51906a301d4330a205", func := "affidavit/affidavitlaw11.FrameReads", spec := "frameReads", unfollowed := true, recurses := true, apart := false, narrowed := true }
def FrameReadsUptoSaid : Prop := frameReadsUptoRow.holds Try.pinned (OpenSpec.upto frameReadsSpec)

/-- 'affidavitlaw11.FrameRow', WHERE WHAT IT READS IS OF BULK AT MOST 1048576: true; the input reads as it did. -/
def frameRowUptoRow : OpenClaim := { program := "ytkhjfphenflefaa", sum := "ef253374de8ef63a3aa090925435f3484b044ccf669e5a51906a301d4330a205", func := "affidavit/affidavitlaw11.FrameRow", spec := "frameRow", unfollowed := true, recurses := true, apart := false, narrowed := true }
def FrameRowUptoSaid : Prop := frameRowUptoRow.holds Try.pinned (OpenSpec.upto frameRowSpec)

end Rows
end Go.Proofs.Ytkhjfphenflefaa
