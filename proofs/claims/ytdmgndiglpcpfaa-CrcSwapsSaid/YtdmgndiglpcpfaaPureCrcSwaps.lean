/- The plain statement of CrcSwaps: of two bytes side by side that are swapped, and not the same, the sum is another one. -/
import Derived.Test.YtdmgndiglpcpfaaPrint4
import Derived.Test.YtdmgndiglpcpfaaCrcPure
namespace Go.Proofs.Ytdmgndiglpcpfaa.Pure
open Go.RowKit Go.Proofs.Ytdmgndiglpcpfaa.Print Go.Proofs.YtdmgndiglpcpfaaW.PrintWords Go.Proofs.YtdmgndiglpcpfaaW.PrintLast

open CrcPlain
theorem CrcSwaps : camshaftlaw03_CrcSwaps.Pure := by
  intro s a hs ha
  have ha' : 0 ≤ a ∧ a ≤ 65535 := by simpa [Lit.wf, IntKind.min, IntKind.max, IntKind.signed, IntKind.bits] using ha
  refine ⟨1, ?_⟩
  unfold camshaftlaw03_CrcSwaps.f
  by_cases h1 : (s.size : Int) < 2
  · rw [if_pos h1]
    simp only [camshaftlaw03_CrcSwaps.j0, if_true, known_true, Option.bind_some]
  · rw [if_neg h1]
    by_cases h2 : (s.size : Int) > 500
    · simp only [camshaftlaw03_CrcSwaps.j0, h2, decide_true, if_true, known_true, Option.bind_some]
    · have w1 : wrap64 ((s.size : Int) - 1) = (s.size : Int) - 1 := by unfold wrap64; omega
      have w2 : wrap64 a = a := by unfold wrap64; omega
      obtain ⟨k, hk, Hk⟩ : ∃ k : Nat, k + 1 < s.size ∧ Int.tmod a ((s.size : Int) - 1) = (k : Int) := by
        rw [Int.tmod_eq_emod_of_nonneg ha'.1]
        have := Int.emod_nonneg a (b := (s.size : Int) - 1) (by omega)
        have := Int.emod_lt_of_pos a (b := (s.size : Int) - 1) (by omega)
        exact ⟨(a % ((s.size : Int) - 1)).toNat, by omega, by omega⟩
      have w3 : wrap64 ((k : Int) + 1) = (k : Int) + 1 := by unfold wrap64; omega
      have w4 : wrap64 ((k : Int) + 2) = (k : Int) + 2 := by unfold wrap64; omega
      have t1 : ((k : Int)).toNat = k := by omega
      have t2 : ((k : Int) + 2).toNat = k + 2 := by omega
      simp only [camshaftlaw03_CrcSwaps.j0, h2, decide_false, Bool.false_eq_true, if_false, w1, w2, Hk, w3, w4, t1, t2, Option.bind_some, ByteArray.size_append, ByteArray.size_extract, size_of, List.length_cons, List.length_nil]
      rw [if_neg (by omega), if_pos (by omega), if_pos (by omega), if_pos (by omega), if_pos (by omega), if_pos (by omega), if_pos (by omega), if_pos (by omega), if_pos (by omega), if_pos (by omega)]
      have r1 := bt_range s k
      have r2 := bt_range s ((k : Int) + 1)
      have key := crcOn_at s k hk (bt s ((k : Int) + 1)) (bt s k) (by omega) (by omega)
      rw [of_some _ (by simp only [ByteArray.size_append, ByteArray.size_extract, size_of, List.length_cons, List.length_nil]; omega), of_some s (by omega)]
      simp only [Option.bind_some]
      rw [if_pos ?_, known_true]
      · rfl
      · rw [beq_iff_eq, Bool.eq_iff_iff, beq_iff_eq, beq_iff_eq, key]
        constructor
        · intro h; exact h.2
        · intro h; exact ⟨h.symm, h⟩

end Go.Proofs.Ytdmgndiglpcpfaa.Pure
