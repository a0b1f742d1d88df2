/- Walks of functions that the given law reaches: each comes to what its plain twin says. Written by xprint.py, a program of this claim's session; Lean checks it. -/
import Derived.Test.YtdfhkdddlfmceaaProg
import Derived.Below
import Derived.Deep.Draws
import Derived.Deep.AppendLies
import Derived.Maps.AppendAt
import Derived.OwnWalk
import Derived.Laws.BytesArg
import Derived.Laws.MakeOwn
import Derived.Laws.OwnMore
import Derived.Deep.OwnRows
import Derived.Tactics
import Derived.Lib.ConvBytes
import Derived.Laws.Slices
import Derived.WalkKit
import Derived.KernelRfl
import Derived.RowKit3
import Derived.Deep.LoopGhost
import Derived.Deep.QuietTactic
import Derived.BigQuiet
import Derived.WideLaws
import Derived.Deep.DeepCutAuto
import Derived.Deep.CutBlock
import Derived.Deep.RegionHeld3
import Derived.Laws.Rows
import Derived.Lib.AppendStr
import Derived.ArgAppend
import Derived.Laws.IdiomCopy
import Derived.OrdersHeld
import Derived.Laws.BitsLemmas
import Derived.RowKit
import Derived.Test.YtdfhkdddlfmceaaXw
import Derived.Test.YtdfhkdddlfmceaaWWords
import Derived.Test.YtdfhkdddlfmceaaWLast
import Derived.Test.YtdfhkdddlfmceaaWTab
import Derived.Test.YtdfhkdddlfmceaaWFour
import Derived.Test.YtdfhkdddlfmceaaWQPut
import Derived.Test.YtdfhkdddlfmceaaWApart
import Derived.Test.YtdfhkdddlfmceaaWArr
import Derived.Test.YtdfhkdddlfmceaaWZeros
import Derived.Test.YtdfhkdddlfmceaaWFoot
import Derived.Test.YtdfhkdddlfmceaaWKept
import Derived.Test.YtdfhkdddlfmceaaWShare
import Derived.Test.YtdfhkdddlfmceaaWN
import Derived.Test.YtdfhkdddlfmceaaWFootNe
import Derived.Test.YtdfhkdddlfmceaaWAt
import Derived.Test.YtdfhkdddlfmceaaWEqStruct
import Derived.Test.YtdfhkdddlfmceaaWRepsOne
import Derived.Test.YtdfhkdddlfmceaaWInv
import Derived.Test.YtdfhkdddlfmceaaWInvWords
import Derived.Test.YtdfhkdddlfmceaaWGuard
import Derived.Test.YtdfhkdddlfmceaaWNEv
import Derived.Test.YtdfhkdddlfmceaaWMore
namespace Go.Proofs.Ytdfhkdddlfmceaa.X
open Go.RowKit Go.Proofs.YtdfhkdddlfmceaaW.PrintWords Go.Proofs.YtdfhkdddlfmceaaW.PrintLast Go.Proofs.YtdfhkdddlfmceaaW.PrintMore
attribute [local go_sem] max2_int min2_int max_two min_two max_three min_three max_four min_four   -- for this text's walks alone
set_option linter.unusedVariables false
set_option linter.unusedSimpArgs false



def errW : Option Int → Value
  | none => .nilIface
  | some c => .iface 0 (.int .i64 c)
theorem errW_none : errW none = .nilIface := rfl
theorem errW_some (c : Int) : errW (some c) = .iface 0 (.int .i64 c) := rfl

theorem info22 : (Try.prog.info? 22).map (fun i => (i.zero, i.size, i.bytes)) = some (some (.int .u64 0), 1, 8) := by kernel_rfl
-- the values' own types

end Go.Proofs.Ytdfhkdddlfmceaa.X
