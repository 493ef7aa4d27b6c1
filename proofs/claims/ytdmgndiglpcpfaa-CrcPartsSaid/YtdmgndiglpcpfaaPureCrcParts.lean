/- The plain statement of CrcParts: a sum goes on over two parts as over both, from any sum, and each sum comes of one row of two bytes. -/
import Derived.Test.YtdmgndiglpcpfaaPrint3
import Derived.Test.YtdmgndiglpcpfaaCrcPure
namespace Go.Proofs.Ytdmgndiglpcpfaa.Pure
open Go.RowKit Go.Proofs.Ytdmgndiglpcpfaa.Print Go.Proofs.YtdmgndiglpcpfaaW.PrintWords Go.Proofs.YtdmgndiglpcpfaaW.PrintLast

open CrcPlain
theorem CrcParts : camshaftlaw03_CrcParts.Pure := by
  intro a s t ha hs ht
  have ha' : -9223372036854775808 ≤ a ∧ a ≤ 9223372036854775807 := by simpa [Lit.wf, IntKind.min, IntKind.max, IntKind.signed, IntKind.bits] using ha
  refine ⟨1, ?_⟩
  unfold camshaftlaw03_CrcParts.f
  by_cases h1 : (s.size : Int) > 500
  · rw [if_pos h1]
    simp only [camshaftlaw03_CrcParts.j0, if_true, known_true, Option.bind_some]
  · rw [if_neg h1]
    by_cases h2 : (t.size : Int) > 500
    · simp only [camshaftlaw03_CrcParts.j0, h2, decide_true, if_true, known_true, Option.bind_some]
    · have e0 : crc_On.f a s = some (crcOn a s) := on_some _ _ (by omega)
      have r0 := crcOn_range a s
      have e1 : ∀ n, crc_On.f n t = some (crcOn n t) := fun n => on_some _ _ (by omega)
      have e2 : crc_On.f a (s ++ t) = some (crcOn a (s ++ t)) := on_some _ _ (by simp only [ByteArray.size_append]; omega)
      have b : ∀ xs : List Int, xs.length ≤ 100 → ∀ n, crc_On.f n (strOfNums xs) = some (crcOn n (strOfNums xs)) := fun xs h n => on_some _ _ (by rw [size_of]; omega)
      have e4 : crc_On.f (wrap64 (a + 65536)) s = some (crcOn a s) := by
        rw [on_some _ _ (by omega)]
        congr 1
        unfold crcOn
        congr 2
        unfold wrap64
        omega
      simp only [camshaftlaw03_CrcParts.j0, h2, decide_false, Bool.false_eq_true, if_false, e0, Option.bind_some, e1, e2, e4]
      rw [if_pos (by omega)]
      rw [if_pos (crcOn_append a s t).symm, b _ (by simp)]
      simp only [Option.bind_some]
      rw [if_pos ?_]
      · simp only [if_true, known_true, Option.bind_some]
      · refine (crcOn_two _ _ _ r0 ?_ ?_).2 ?_
        · omega
        · rw [Int.tmod_eq_emod_of_nonneg r0.1]; omega
        · rw [Int.tmod_eq_emod_of_nonneg r0.1, Int.tdiv_eq_ediv_of_nonneg r0.1]
          unfold wrap64
          omega

end Go.Proofs.Ytdmgndiglpcpfaa.Pure
