/- PLAIN: what the program's functions of package crc come to, in the words of the plain text; the fixed calls answer as they must. -/
import Derived.Test.YtdmgndiglpcpfaaPrint1
import Derived.Test.YtdmgndiglpcpfaaCrcLaws
namespace Go.Proofs.Ytdmgndiglpcpfaa.Pure
open Go.RowKit Go.Proofs.Ytdmgndiglpcpfaa.Print Go.Proofs.YtdmgndiglpcpfaaW.PrintWords Go.Proofs.YtdmgndiglpcpfaaW.PrintLast CrcPlain
theorem on_some (a : Int) (s : ByteArray) (h : s.size ≤ 9223372036854775807) : crc_On.f a s = some (crcOn a s) := by
  unfold crc_On.f
  rw [if_pos h]
theorem of_some (s : ByteArray) (h : s.size ≤ 9223372036854775807) : crc_Of.f s = some (crcOn 0 s) := by
  unfold crc_Of.f
  rw [on_some 0 s h]
  rfl
theorem known_true : camshaftlaw03_known.f = some true := by
  decide +kernel
theorem two_bytes (n : Int) (h : 0 ≤ n ∧ n < 65536) : [(n / 256) % 256, n % 256] = [n / 256, n % 256] := by
  rw [show (n / 256) % 256 = n / 256 by omega]
theorem seal_some (s : ByteArray) (h : s.size ≤ 140737488351232) : crc_Seal.f s = some (s ++ strOfNums [crcOn 0 s / 256, crcOn 0 s % 256]) := by
  have r := crcOn_range 0 s
  unfold crc_Seal.f
  rw [of_some s (by omega)]
  simp only [Option.bind_some, two_bytes _ r]
  rw [if_pos (by rw [size_of]; simp; omega)]
theorem crcOn_seal (s : ByteArray) : crcOn 0 (s ++ strOfNums [crcOn 0 s / 256, crcOn 0 s % 256]) = 0 := by
  have r := crcOn_range 0 s
  rw [crcOn_append, crcOn_two _ _ _ r (by omega) (by omega)]
  omega
/-- bytes that are opened: whether they are too short, whether the sum is right -/
theorem open_some (s : ByteArray) (h : s.size ≤ 9223372036854775807) :
    crc_Open.f s = some (if s.size < 2 then (ByteArray.empty, 2) else if crcOn 0 s = 0 then (s.extract 0 (s.size - 2), 0) else (ByteArray.empty, 5)) := by
  unfold crc_Open.f
  by_cases h2 : s.size < 2
  · rw [if_pos (by unfold wrap64; omega), if_pos h2]; rfl
  · have w : wrap64 ((s.size : Int) - 2) = (s.size : Int) - 2 := by unfold wrap64; omega
    rw [w, if_neg (by omega), if_neg h2, of_some s h]
    simp only [Option.bind_some]
    by_cases h0 : crcOn 0 s = 0
    · rw [if_pos h0, if_pos h0, if_pos (by omega), if_pos (by omega)]
      have e : ((s.size : Int) - 2).toNat = s.size - 2 := by omega
      rw [e]
    · rw [if_neg h0, if_neg h0]; rfl
end Go.Proofs.Ytdmgndiglpcpfaa.Pure
