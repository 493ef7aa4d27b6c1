/- The plain statement of NumShifts: a shift goes by the number modulo 64, twice it is by both; to the right a number keeps its sign, and gets no farther from 0 than -1. -/
import Derived.Test.YtbbfcfpbdgibaaaPrint14
import Derived.Test.YtbbfcfpbdgibaaaNumPure
namespace Go.Proofs.Ytbbfcfpbdgibaaa.Pure
open Go.RowKit Go.Proofs.Ytbbfcfpbdgibaaa.Print Go.Proofs.YtbbfcfpbdgibaaaW.PrintWords Go.Proofs.YtbbfcfpbdgibaaaW.PrintLast
open NumLaws Num
theorem NumShifts : camshaftlaw01_NumShifts.Pure := by
  intro a s t ha hs ht
  have ha' := in_of ha
  have hs' := byte_of hs
  have ht' := byte_of ht
  clear ha hs ht
  obtain ⟨j, hj, Hj⟩ : ∃ j : Nat, j < 32 ∧ Int.tmod (wrap64 s) 32 = (j : Int) := by
    rw [wrap_in (by unfold In; omega), Int.tmod_eq_emod_of_nonneg hs'.1]
    exact ⟨(s % 32).toNat, by omega, by omega⟩
  obtain ⟨k, hk, Hk⟩ : ∃ j : Nat, j < 32 ∧ Int.tmod (wrap64 t) 32 = (j : Int) := by
    rw [wrap_in (by unfold In; omega), Int.tmod_eq_emod_of_nonneg ht'.1]
    exact ⟨(t % 32).toNat, by omega, by omega⟩
  have w1 : wrap64 ((j : Int) + (k : Int)) = (j : Int) + (k : Int) := wrap_in (by unfold In; omega)
  have w2 : wrap64 ((j : Int) + (k : Int) + 64) = (j : Int) + (k : Int) + 64 := wrap_in (by unfold In; omega)
  have e1 : ((j : Int) % 64).toNat = j := by omega
  have e2 : ((k : Int) % 64).toNat = k := by omega
  have e3 : (((j : Int) + (k : Int)) % 64).toNat = j + k := by omega
  have e4 : (((j : Int) + (k : Int) + 64) % 64).toNat = j + k := by omega
  unfold camshaftlaw01_NumShifts.f
  simp only [t9, t10, Option.bind_some, known_true, Hj, Hk, w1, w2, e1, e2, e3, e4]
  rw [if_pos (by rw [wrap_mul_l, Int.mul_assoc, ← Int.pow_add]), if_pos (div_div a j k), if_pos (by rw [beq_iff_eq, decide_eq_decide]; exact div_neg_iff a j)]
  have h63 : a / 2 ^ ((63 : Int) % 64).toNat = a / 9223372036854775808 := rfl
  rw [h63]
  unfold In at ha'
  by_cases h0 : a / 9223372036854775808 = 0
  · rw [if_pos h0]
  · rw [if_neg h0, if_pos (by omega)]

end Go.Proofs.Ytbbfcfpbdgibaaa.Pure
