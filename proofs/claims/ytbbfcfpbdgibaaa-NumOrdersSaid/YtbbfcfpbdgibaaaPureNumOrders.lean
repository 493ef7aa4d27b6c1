/- The plain statement of NumOrders: sums and products may be made in any order; a product of a sum is the sum of the products. -/
import Derived.Test.YtbbfcfpbdgibaaaPrint15
import Derived.Test.YtbbfcfpbdgibaaaNumPure
namespace Go.Proofs.Ytbbfcfpbdgibaaa.Pure
open Go.RowKit Go.Proofs.Ytbbfcfpbdgibaaa.Print Go.Proofs.YtbbfcfpbdgibaaaW.PrintWords Go.Proofs.YtbbfcfpbdgibaaaW.PrintLast
open NumLaws Num
theorem NumOrders : camshaftlaw01_NumOrders.Pure := by
  intro a b c ha hb hc
  unfold camshaftlaw01_NumOrders.f
  simp only [t1, t3, Option.bind_some, known_true]
  rw [if_pos (by rw [wrap_add_l, wrap_add_r, Int.add_assoc]), if_pos (by rw [wrap_mul_l, wrap_mul_r, Int.mul_assoc]), if_pos (by rw [wrap_mul_r, wrap_add_l, wrap_add_r, Int.mul_add, Int.mul_comm c a, Int.mul_comm c b])]

end Go.Proofs.Ytbbfcfpbdgibaaa.Pure
