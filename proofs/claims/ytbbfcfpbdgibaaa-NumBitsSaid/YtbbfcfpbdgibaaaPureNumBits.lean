/- The plain statement of NumBits: And has no bit that the one number has not, Or all that it has, Xor those of just one. -/
import Derived.Test.YtbbfcfpbdgibaaaPrint16
import Derived.Test.YtbbfcfpbdgibaaaNumPure
namespace Go.Proofs.Ytbbfcfpbdgibaaa.Pure
open Go.RowKit Go.Proofs.Ytbbfcfpbdgibaaa.Print Go.Proofs.YtbbfcfpbdgibaaaW.PrintWords Go.Proofs.YtbbfcfpbdgibaaaW.PrintLast
open NumLaws Num
theorem NumBits : camshaftlaw01_NumBits.Pure := by
  intro a b ha hb
  unfold camshaftlaw01_NumBits.f
  simp only [t2, t6, t7, t8, Option.bind_some, known_true, bits_and, bits_or, bits_xor, BitVec.ofInt_toInt]
  generalize BitVec.ofInt 64 a = u
  generalize BitVec.ofInt 64 b = v
  rw [if_pos (by congr 1; ext i; simp; cases u[i] <;> cases v[i] <;> simp), if_pos (by congr 1; ext i; simp; cases u[i] <;> cases v[i] <;> simp), if_pos ?_, if_pos ?_]
  · have e : (u &&& v) &&& (u ^^^ v) = 0#64 := by ext i; simp; cases u[i] <;> cases v[i] <;> simp
    rw [e]; rfl
  · rw [← toInt_sub, or_parts u v]
    congr 1
    rw [BitVec.add_comm, BitVec.add_sub_cancel]

end Go.Proofs.Ytbbfcfpbdgibaaa.Pure
