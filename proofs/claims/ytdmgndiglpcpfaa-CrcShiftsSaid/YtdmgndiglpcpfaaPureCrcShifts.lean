/- The plain statement of CrcShifts: bytes 0 ahead of all make no difference to the sum; a sum is one of 16 bits. -/
import Derived.Test.YtdmgndiglpcpfaaPrintA7
import Derived.Test.YtdmgndiglpcpfaaPureCrcOn
namespace Go.Proofs.Ytdmgndiglpcpfaa.PureA
open Go.RowKit Go.Proofs.Ytdmgndiglpcpfaa.PrintA Go.Proofs.YtdmgndiglpcpfaaW.PrintWords Go.Proofs.YtdmgndiglpcpfaaW.PrintLast CrcPlain
theorem zeros_ahead (k : Nat) (s : ByteArray) : crcOn 0 (strOfNums (List.replicate k 0) ++ s) = crcOn 0 s := by
  unfold crcOn
  rw [nats_append, nats_of _ (by
    intro z hz
    rw [List.mem_replicate] at hz
    omega), List.map_replicate]
  have h := on_zeros k (nats s)
  have e : ((0 : Int) % 65536).toNat = 0 := rfl
  rw [e]
  exact congrArg _ h
theorem on_empty (n : Int) (h : 0 ≤ n ∧ n < 65536) : crcOn n (⟨#[]⟩ : ByteArray) = n := by
  unfold crcOn
  have e : nats (⟨#[]⟩ : ByteArray) = [] := rfl
  rw [e, on_nil]
  omega
theorem CrcShifts (s : ByteArray) (m sum : Int) (hm : (Lit.int .u8 m).wf = true) : camshaftlaw03_CrcShifts.f s m sum = some true := by
  have hm' : 0 ≤ m ∧ m ≤ 255 := by simpa [Lit.wf, IntKind.min, IntKind.max, IntKind.signed, IntKind.bits] using hm
  have kn := known_true
  unfold camshaftlaw03_CrcShifts.f
  by_cases h1 : (s.size : Int) > 500
  · rw [if_pos h1, kn]
    rfl
  · rw [if_neg h1, if_pos hm'.1, if_pos (by omega), kn]
    have l1 : (strOfNums (List.replicate m.toNat 0)).size ≤ 255 := by
      rw [size_of, List.length_replicate]
      omega
    have z0 : s.size ≤ 9223372036854775807 := by omega
    have z1 : (strOfNums (List.replicate m.toNat 0) ++ s).size ≤ 9223372036854775807 := by rw [ByteArray.size_append]; omega
    simp only [Option.bind_some]
    rw [on_some _ _ z0]
    simp only [Option.bind_some]
    rw [if_pos (by omega), of_some _ z1, of_some _ z0]
    simp only [Option.bind_some]
    have r := crcOn_range sum s
    rw [if_pos (zeros_ahead _ s), if_pos r.1, if_pos r.2, on_some _ _ (by decide)]
    simp only [Option.bind_some]
    rw [if_pos (on_empty _ r)]
end Go.Proofs.Ytdmgndiglpcpfaa.PureA
