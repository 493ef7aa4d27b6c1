/- The plain statement of NumDivides: a number is another one times what it is divided by it, and what is left; that is nearer to 0 than the other one, and not of the other sign. -/
import Derived.Test.YtbbfcfpbdgibaaaPrint18
import Derived.Test.YtbbfcfpbdgibaaaNumPure
namespace Go.Proofs.Ytbbfcfpbdgibaaa.Pure
open Go.RowKit Go.Proofs.Ytbbfcfpbdgibaaa.Print Go.Proofs.YtbbfcfpbdgibaaaW.PrintWords Go.Proofs.YtbbfcfpbdgibaaaW.PrintLast
open NumLaws Num
theorem t4 (a b : Int) (h : b ≠ 0) : num_Two.f 4 a b = some (wrap64 (Int.tdiv a b), false) := by
  show some (two 4 a b) = _
  unfold two
  simp [h]
theorem t5 (a b : Int) (h : b ≠ 0) : num_Two.f 5 a b = some (Int.tmod a b, false) := by
  show some (two 5 a b) = _
  unfold two
  simp [h]
theorem z4 (a : Int) : num_Two.f 4 a 0 = some (0, true) := rfl
theorem z5 (a : Int) : num_Two.f 5 a 0 = some (0, true) := rfl
theorem wrap_mul_in (b q : Int) : wrap64 (b * wrap64 q) = wrap64 (b * q) := by
  obtain ⟨k, hk⟩ : ∃ k : Int, wrap64 q = q + 18446744073709551616 * k := ⟨-((q + 9223372036854775808) / 18446744073709551616), by unfold wrap64; omega⟩
  rw [hk, Int.mul_add, Int.mul_left_comm]
  generalize b * k = z
  generalize b * q = x
  unfold wrap64
  omega
theorem back (a b : Int) (ha : In a) : wrap64 (wrap64 (b * wrap64 (Int.tdiv a b)) + Int.tmod a b) = a := by
  rw [wrap_mul_in]
  have h := Int.mul_tdiv_add_tmod a b
  generalize b * Int.tdiv a b = x at *
  generalize Int.tmod a b = m at *
  unfold In at ha
  unfold wrap64
  omega
theorem mod_pos (a b : Int) (hb : 0 < b) : -b < Int.tmod a b ∧ Int.tmod a b < b := ⟨Int.lt_tmod_of_pos a hb, Int.tmod_lt_of_pos a hb⟩
theorem mod_neg (a b : Int) (hb : b < 0) : b < Int.tmod a b ∧ Int.tmod a b < -b := by
  have h := mod_pos a (-b) (by omega)
  rw [Int.tmod_neg] at h
  omega
theorem mod_up (a b : Int) (ha : 0 ≤ a) : 0 ≤ Int.tmod a b := Int.tmod_nonneg _ ha
theorem mod_down (a b : Int) (ha : a ≤ 0) : Int.tmod a b ≤ 0 := by
  have h := Int.tmod_nonneg b (a := -a) (by omega)
  rw [Int.neg_tmod] at h
  omega
theorem NumDivides : camshaftlaw01_NumDivides.Pure := by
  intro a b ha hb
  have ha' := in_of ha
  have hb' := in_of hb
  unfold camshaftlaw01_NumDivides.f
  by_cases hz : b = 0
  · subst hz
    rw [z4, z5]
    simp only [Option.bind_some, if_true, known_true]
  · rw [t4 a b hz, t5 a b hz]
    simp only [Option.bind_some]
    rw [if_neg hz, t3]
    simp only [Option.bind_some]
    rw [t1]
    simp only [Option.bind_some]
    have hs := back a b ha'
    have m1 := mod_pos a b
    have m2 := mod_neg a b
    have m3 := mod_up a b
    have m4 := mod_down a b
    have wn : b ≠ -9223372036854775808 → wrap64 (-b) = -b := by
      intro h
      unfold In at hb'
      unfold wrap64
      omega
    clear ha hb ha' 
    generalize wrap64 (wrap64 (b * wrap64 (Int.tdiv a b)) + Int.tmod a b) = s at *
    generalize Int.tmod a b = m at *
    generalize wrap64 (-b) = n at *
    unfold In at hb'
    subst hs
    simp only [if_true, Bool.false_eq_true, if_false, known_true, Option.bind_some]
    by_cases hm : b = -9223372036854775808
    · simp only [hm, if_true]
      subst hm
      repeat' split
      all_goals first | rfl | (exfalso; clear wn; omega)
    · simp only [hm, if_false]
      have wn' := wn hm
      clear wn
      subst wn'
      repeat' split
      all_goals first | rfl | (exfalso; omega)
end Go.Proofs.Ytbbfcfpbdgibaaa.Pure
