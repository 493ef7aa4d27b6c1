/- WRITTEN BY A PROGRAM OF THE SESSION out of the translation: functions in plain Lean, and that the calls come to just these answers; Lean checks every line. -/
import Derived.Test.YtbbfcfpbdgibaaaPrint0
namespace Go.Proofs.Ytbbfcfpbdgibaaa.Print
open Go.RowKit Go.Proofs.YtbbfcfpbdgibaaaW.PrintWords Go.Proofs.YtbbfcfpbdgibaaaW.PrintLast Go.Proofs.YtbbfcfpbdgibaaaW.PrintMore
attribute [local go_sem] max2_int min2_int max_two min_two max_three min_three max_four min_four   -- for this text's walks alone
set_option linter.unusedVariables false
set_option linter.unusedSimpArgs false

/-! ### camshaftlaw01_known: function 19 (by hand) -/
def camshaftlaw01_known.f : Option (Bool) := some true
theorem camshaftlaw01_known.calls (r : Bool) (w : World) (h : camshaftlaw01_known.f = some r) :
    Calls Try.prog 19 #[] w fun e w' => e = .returned (.bool r) ∧ Below w.heap.size w w' := by
  have h1 := Option.some.inj h
  rw [← h1]
  exact Num.known_walk w


end Go.Proofs.Ytbbfcfpbdgibaaa.Print
