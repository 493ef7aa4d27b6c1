/- WRITTEN BY A PROGRAM OF THE SESSION out of the translation: functions in plain Lean, and that the calls come to just these answers; Lean checks every line. -/
import Derived.Test.YtdmgndiglpcpfaaProg
import Derived.Below
import Derived.Deep.Draws
import Derived.Deep.AppendLies
import Derived.Maps.AppendAt
import Derived.OwnWalk
import Derived.Laws.BytesArg
import Derived.Laws.MakeOwn
import Derived.Laws.OwnMore
import Derived.Deep.OwnRows
import Derived.Tactics
import Derived.Lib.ConvBytes
import Derived.Laws.Slices
import Derived.WalkKit
import Derived.KernelRfl
import Derived.RowKit3
import Derived.Deep.LoopGhost
import Derived.Deep.QuietTactic
import Derived.BigQuiet
import Derived.WideLaws
import Derived.Deep.DeepCutAuto
import Derived.Deep.CutBlock
import Derived.Deep.RegionHeld3
import Derived.Laws.Rows
import Derived.Lib.AppendStr
import Derived.ArgAppend
import Derived.Laws.IdiomCopy
import Derived.OrdersHeld
import Derived.Laws.BitsLemmas
import Derived.RowKit
import Derived.Test.YtdmgndiglpcpfaaCrcOnWalk
import Derived.Test.YtdmgndiglpcpfaaWWords
import Derived.Test.YtdmgndiglpcpfaaWLast
import Derived.Test.YtdmgndiglpcpfaaWTab
import Derived.Test.YtdmgndiglpcpfaaWFour
import Derived.Test.YtdmgndiglpcpfaaWQPut
import Derived.Test.YtdmgndiglpcpfaaWApart
import Derived.Test.YtdmgndiglpcpfaaWArr
import Derived.Test.YtdmgndiglpcpfaaWZeros
import Derived.Test.YtdmgndiglpcpfaaWFoot
import Derived.Test.YtdmgndiglpcpfaaWKept
import Derived.Test.YtdmgndiglpcpfaaWShare
import Derived.Test.YtdmgndiglpcpfaaWN
import Derived.Test.YtdmgndiglpcpfaaWFootNe
import Derived.Test.YtdmgndiglpcpfaaWAt
import Derived.Test.YtdmgndiglpcpfaaWEqStruct
import Derived.Test.YtdmgndiglpcpfaaWRepsOne
import Derived.Test.YtdmgndiglpcpfaaWInv
import Derived.Test.YtdmgndiglpcpfaaWInvWords
import Derived.Test.YtdmgndiglpcpfaaWGuard
import Derived.Test.YtdmgndiglpcpfaaWNEv
import Derived.Test.YtdmgndiglpcpfaaWMore
namespace Go.Proofs.Ytdmgndiglpcpfaa.PrintA
open Go.RowKit Go.Proofs.YtdmgndiglpcpfaaW.PrintWords Go.Proofs.YtdmgndiglpcpfaaW.PrintLast Go.Proofs.YtdmgndiglpcpfaaW.PrintMore
attribute [local go_sem] max2_int min2_int max_two min_two max_three min_three max_four min_four   -- for this text's walks alone
set_option linter.unusedVariables false
set_option linter.unusedSimpArgs false



def errW : Option Int → Value
  | none => .nilIface
  | some c => .iface 0 (.int .i64 c)
theorem errW_none : errW none = .nilIface := rfl
theorem errW_some (c : Int) : errW (some c) = .iface 0 (.int .i64 c) := rfl

theorem info5 : (Try.prog.info? 5).map (fun i => (i.zero, i.size, i.bytes)) = some (some (.int .u8 0), 1, 1) := by kernel_rfl
-- the values' own types

end Go.Proofs.Ytdmgndiglpcpfaa.PrintA
