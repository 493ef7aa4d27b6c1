/- The plain statement of NumNots: a truth is told as 1 or 0; Not twice is whether there is something; Lt and Eq tell truths. -/
import Derived.Test.YtbbfcfpbdgibaaaPrint17
import Derived.Test.YtbbfcfpbdgibaaaNumPure
namespace Go.Proofs.Ytbbfcfpbdgibaaa.Pure
open Go.RowKit Go.Proofs.Ytbbfcfpbdgibaaa.Print Go.Proofs.YtbbfcfpbdgibaaaW.PrintWords Go.Proofs.YtbbfcfpbdgibaaaW.PrintLast
open NumLaws Num
theorem b2i_one (p : Bool) : (b2i p == 1) = p := by cases p <;> rfl
theorem b2i_zero (p : Bool) : (b2i p == 0) = !p := by cases p <;> rfl
theorem bool_some (p : Bool) : num_Bool.f p = some (b2i p) := by cases p <;> rfl
theorem not_some (a : Int) : num_Not.f a = some (b2i (a == 0)) := by
  unfold num_Not.f
  rw [bool_some]
  rfl
theorem NumNots : camshaftlaw01_NumNots.Pure := by
  intro a b p ha hb
  unfold camshaftlaw01_NumNots.f
  simp only [t11, t12, bool_some, not_some, Option.bind_some, known_true, b2i_one, b2i_zero]
  rw [if_pos (by cases p <;> rfl), if_pos (by cases p <;> rfl), if_pos (by cases p <;> rfl), if_pos (by simp), if_pos (by simp), if_pos ?_, if_pos (by simp), if_pos ?_]
  · rw [beq_iff_eq]; rfl
  · rw [beq_iff_eq, Bool.eq_iff_iff]
    simp

end Go.Proofs.Ytbbfcfpbdgibaaa.Pure
