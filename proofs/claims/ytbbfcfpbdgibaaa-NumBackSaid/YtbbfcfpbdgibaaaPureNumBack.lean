/- The plain statement of NumBack: what is added is taken away; what is turned by Xor is turned back; what is doubled s times, and halved as often, is the number, if it had room; Neg of Neg is the number. -/
import Derived.Test.YtbbfcfpbdgibaaaPrint12
import Derived.Test.YtbbfcfpbdgibaaaNumPure
namespace Go.Proofs.Ytbbfcfpbdgibaaa.Pure
open Go.RowKit Go.Proofs.Ytbbfcfpbdgibaaa.Print Go.Proofs.YtbbfcfpbdgibaaaW.PrintWords Go.Proofs.YtbbfcfpbdgibaaaW.PrintLast
open NumLaws Num
theorem NumBack : camshaftlaw01_NumBack.Pure := by
  intro a b s ha hb hs
  have ha' := in_of ha
  have hs' := byte_of hs
  clear ha hs
  obtain ⟨j, hj, Hj⟩ : ∃ j : Nat, j < 32 ∧ Int.tmod (wrap64 s) 32 = (j : Int) := by
    rw [wrap_in (by unfold In; omega), Int.tmod_eq_emod_of_nonneg hs'.1]
    exact ⟨(s % 32).toNat, by omega, by omega⟩
  have e1 : ((j : Int) % 64).toNat = j := by omega
  have hsm : -1073741824 < Int.tmod a 1073741824 ∧ Int.tmod a 1073741824 < 1073741824 := by
    have h1 := Int.tmod_lt_of_pos a (b := 1073741824) (by omega)
    have h2 := Int.lt_tmod_of_pos a (b := 1073741824) (by omega)
    omega
  unfold camshaftlaw01_NumBack.f num_Neg.f
  generalize Int.tmod a 1073741824 = m at *
  simp only [t1, t2, t8, t9, t10, Option.bind_some, known_true, Hj, e1]
  have x1 : wrap64 (wrap64 (a + b) - b) = a := by rw [wrap_sub_l, Int.add_sub_cancel]; exact wrap_in ha'
  have x2 : bits .xor .i64 (bits .xor .i64 a b) b = a := by
    rw [bits_xor, bits_xor, BitVec.ofInt_toInt, BitVec.xor_assoc, BitVec.xor_self, BitVec.xor_zero]
    exact toInt_ofInt ha'
  have x3 : wrap64 (m * 2 ^ j) / 2 ^ j = m := by
    rw [wrap_in (in_shift m j hsm hj)]
    exact Int.mul_ediv_cancel m (Int.ne_of_gt (pow_pos' j))
  have x4 : wrap64 (-wrap64 (-a)) = a := by
    unfold wrap64
    unfold In at ha'
    omega
  have x5 : wrap64 (-a) = wrap64 (0 - a) := by rw [Int.zero_sub]
  rw [if_pos x1, if_pos x2, if_pos x3, if_pos x4, if_pos x5]

end Go.Proofs.Ytbbfcfpbdgibaaa.Pure
