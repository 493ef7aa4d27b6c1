/- WRITTEN BY A PROGRAM OF THE SESSION out of the translation: functions in plain Lean, and that the calls come to just these answers; Lean checks every line. -/
import Derived.Test.YtdkagkoglefncaaProg
import Derived.Below
import Derived.Deep.Draws
import Derived.Deep.AppendLies
import Derived.Maps.AppendAt
import Derived.OwnWalk
import Derived.Laws.BytesArg
import Derived.Laws.MakeOwn
import Derived.Laws.OwnMore
import Derived.Deep.OwnRows
import Derived.Tactics
import Derived.Lib.ConvBytes
import Derived.Laws.Slices
import Derived.WalkKit
import Derived.KernelRfl
import Derived.RowKit3
import Derived.Deep.LoopGhost
import Derived.Deep.QuietTactic
import Derived.BigQuiet
import Derived.WideLaws
import Derived.Deep.DeepCutAuto
import Derived.Deep.CutBlock
import Derived.Deep.RegionHeld3
import Derived.Laws.Rows
import Derived.Lib.AppendStr
import Derived.ArgAppend
import Derived.Laws.IdiomCopy
import Derived.OrdersHeld
import Derived.Laws.BitsLemmas
import Derived.RowKit
import Derived.Test.YtdkagkoglefncaaNatBest
import Derived.Test.YtdkagkoglefncaaWWords
import Derived.Test.YtdkagkoglefncaaWLast
import Derived.Test.YtdkagkoglefncaaWTab
import Derived.Test.YtdkagkoglefncaaWFour
import Derived.Test.YtdkagkoglefncaaWQPut
import Derived.Test.YtdkagkoglefncaaWApart
import Derived.Test.YtdkagkoglefncaaWArr
import Derived.Test.YtdkagkoglefncaaWZeros
import Derived.Test.YtdkagkoglefncaaWFoot
import Derived.Test.YtdkagkoglefncaaWKept
import Derived.Test.YtdkagkoglefncaaWShare
import Derived.Test.YtdkagkoglefncaaWN
import Derived.Test.YtdkagkoglefncaaWFootNe
import Derived.Test.YtdkagkoglefncaaWAt
import Derived.Test.YtdkagkoglefncaaWEqStruct
import Derived.Test.YtdkagkoglefncaaWRepsOne
import Derived.Test.YtdkagkoglefncaaWInv
import Derived.Test.YtdkagkoglefncaaWInvWords
import Derived.Test.YtdkagkoglefncaaWGuard
import Derived.Test.YtdkagkoglefncaaWNEv
import Derived.Test.YtdkagkoglefncaaWMore
namespace Go.Proofs.Ytdkagkoglefncaa.Print
open Go.RowKit Go.Proofs.YtdkagkoglefncaaW.PrintWords Go.Proofs.YtdkagkoglefncaaW.PrintLast Go.Proofs.YtdkagkoglefncaaW.PrintMore
attribute [local go_sem] max2_int min2_int max_two min_two max_three min_three max_four min_four   -- for this text's walks alone
set_option linter.unusedVariables false
set_option linter.unusedSimpArgs false



def errW : Option Int → Value
  | none => .nilIface
  | some c => .iface 0 (.int .i64 c)
theorem errW_none : errW none = .nilIface := rfl
theorem errW_some (c : Int) : errW (some c) = .iface 0 (.int .i64 c) := rfl

theorem info3 : (Try.prog.info? 3).map (fun i => (i.zero, i.size, i.bytes)) = some (some (.int .i64 0), 1, 8) := by kernel_rfl
-- the values' own types

end Go.Proofs.Ytdkagkoglefncaa.Print
