/- WRITTEN BY A PROGRAM OF THE SESSION out of the translation: functions in plain Lean, and that the calls come to just these answers; Lean checks every line. -/
import Derived.Test.YtbbfcfpbdgibaaaProg
import Derived.Below
import Derived.Deep.Draws
import Derived.Deep.AppendLies
import Derived.Maps.AppendAt
import Derived.OwnWalk
import Derived.Laws.BytesArg
import Derived.Laws.MakeOwn
import Derived.Laws.OwnMore
import Derived.Deep.OwnRows
import Derived.Tactics
import Derived.Lib.ConvBytes
import Derived.Laws.Slices
import Derived.WalkKit
import Derived.KernelRfl
import Derived.RowKit3
import Derived.Deep.LoopGhost
import Derived.Deep.QuietTactic
import Derived.BigQuiet
import Derived.WideLaws
import Derived.Deep.DeepCutAuto
import Derived.Deep.CutBlock
import Derived.Deep.RegionHeld3
import Derived.Laws.Rows
import Derived.Lib.AppendStr
import Derived.ArgAppend
import Derived.Laws.IdiomCopy
import Derived.OrdersHeld
import Derived.Laws.BitsLemmas
import Derived.RowKit
import Derived.Test.YtbbfcfpbdgibaaaNumKnown
import Derived.Test.YtbbfcfpbdgibaaaWWords
import Derived.Test.YtbbfcfpbdgibaaaWLast
import Derived.Test.YtbbfcfpbdgibaaaWTab
import Derived.Test.YtbbfcfpbdgibaaaWFour
import Derived.Test.YtbbfcfpbdgibaaaWQPut
import Derived.Test.YtbbfcfpbdgibaaaWApart
import Derived.Test.YtbbfcfpbdgibaaaWArr
import Derived.Test.YtbbfcfpbdgibaaaWZeros
import Derived.Test.YtbbfcfpbdgibaaaWFoot
import Derived.Test.YtbbfcfpbdgibaaaWKept
import Derived.Test.YtbbfcfpbdgibaaaWShare
import Derived.Test.YtbbfcfpbdgibaaaWN
import Derived.Test.YtbbfcfpbdgibaaaWFootNe
import Derived.Test.YtbbfcfpbdgibaaaWAt
import Derived.Test.YtbbfcfpbdgibaaaWEqStruct
import Derived.Test.YtbbfcfpbdgibaaaWRepsOne
import Derived.Test.YtbbfcfpbdgibaaaWInv
import Derived.Test.YtbbfcfpbdgibaaaWInvWords
import Derived.Test.YtbbfcfpbdgibaaaWGuard
import Derived.Test.YtbbfcfpbdgibaaaWNEv
import Derived.Test.YtbbfcfpbdgibaaaWMore
namespace Go.Proofs.Ytbbfcfpbdgibaaa.Print
open Go.RowKit Go.Proofs.YtbbfcfpbdgibaaaW.PrintWords Go.Proofs.YtbbfcfpbdgibaaaW.PrintLast Go.Proofs.YtbbfcfpbdgibaaaW.PrintMore
attribute [local go_sem] max2_int min2_int max_two min_two max_three min_three max_four min_four   -- for this text's walks alone
set_option linter.unusedVariables false
set_option linter.unusedSimpArgs false



def errW : Option Int → Value
  | none => .nilIface
  | some c => .iface 0 (.int .i64 c)
theorem errW_none : errW none = .nilIface := rfl
theorem errW_some (c : Int) : errW (some c) = .iface 0 (.int .i64 c) := rfl

theorem info3 : (Try.prog.info? 3).map (fun i => (i.zero, i.size, i.bytes)) = some (some (.int .i64 0), 1, 8) := by kernel_rfl
theorem info9 : (Try.prog.info? 9).map (fun i => (i.zero, i.size, i.bytes)) = some (some (.string ⟨#[]⟩), 1, 16) := by kernel_rfl
-- the values' own types

end Go.Proofs.Ytbbfcfpbdgibaaa.Print
