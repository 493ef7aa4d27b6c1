/- The plain statement of CrcLines: rows that differ in their last two bytes alone have sums that differ. -/
import Derived.Test.YtdmgndiglpcpfaaPrintA6
import Derived.Test.YtdmgndiglpcpfaaPureCrcOn
namespace Go.Proofs.Ytdmgndiglpcpfaa.PureA
open Go.RowKit Go.Proofs.Ytdmgndiglpcpfaa.PrintA Go.Proofs.YtdmgndiglpcpfaaW.PrintWords Go.Proofs.YtdmgndiglpcpfaaW.PrintLast CrcPlain
theorem sums_same (s : ByteArray) (a b c d : Int) (ha : 0 ≤ a ∧ a ≤ 255) (hb : 0 ≤ b ∧ b ≤ 255) (hc : 0 ≤ c ∧ c ≤ 255) (hd : 0 ≤ d ∧ d ≤ 255) :
    crcOn 0 (s ++ strOfNums [a, b]) = crcOn 0 (s ++ strOfNums [c, d]) ↔ a = c ∧ b = d := by
  rw [crcOn_append, crcOn_append]
  obtain ⟨n0, n1⟩ := crcOn_range 0 s
  generalize crcOn 0 s = n at *
  unfold crcOn
  have f : ∀ x y : Int, 0 ≤ x ∧ x ≤ 255 → 0 ≤ y ∧ y ≤ 255 → nats (strOfNums [x, y]) = [x.toNat, y.toNat] := by
    intro x y hx hy
    rw [nats_of _ (by
      intro z hz
      simp at hz
      rcases hz with rfl | rfl <;> omega)]
    rfl
  rw [f a b ha hb, f c d hc hd]
  have hn : (n % 65536).toNat < 65536 := by omega
  have h := on_two_inj hn (a := a.toNat) (b := b.toNat) (c := c.toNat) (d := d.toNat) (by omega) (by omega) (by omega) (by omega)
  constructor
  · intro e
    have e1 := h.1 (by omega)
    omega
  · intro e
    have e1 := h.2 (by omega)
    omega
theorem CrcLines (s : ByteArray) (a b c d : Int) (ha : (Lit.int .u8 a).wf = true) (hb : (Lit.int .u8 b).wf = true) (hc : (Lit.int .u8 c).wf = true) (hd : (Lit.int .u8 d).wf = true) : camshaftlaw03_CrcLines.f s a b c d = some true := by
  have ha' : 0 ≤ a ∧ a ≤ 255 := by simpa [Lit.wf, IntKind.min, IntKind.max, IntKind.signed, IntKind.bits] using ha
  have hb' : 0 ≤ b ∧ b ≤ 255 := by simpa [Lit.wf, IntKind.min, IntKind.max, IntKind.signed, IntKind.bits] using hb
  have hc' : 0 ≤ c ∧ c ≤ 255 := by simpa [Lit.wf, IntKind.min, IntKind.max, IntKind.signed, IntKind.bits] using hc
  have hd' : 0 ≤ d ∧ d ≤ 255 := by simpa [Lit.wf, IntKind.min, IntKind.max, IntKind.signed, IntKind.bits] using hd
  have kn := known_true
  unfold camshaftlaw03_CrcLines.f
  by_cases h1 : (s.size : Int) > 500
  · rw [if_pos h1, kn]
    rfl
  · rw [if_neg h1]
    have l1 : (strOfNums [a, b]).size = 2 := by rw [size_of]; rfl
    have l2 : (strOfNums [c, d]).size = 2 := by rw [size_of]; rfl
    have z1 : (s ++ strOfNums [a, b]).size ≤ 9223372036854775807 := by rw [ByteArray.size_append, l1]; omega
    have z2 : (s ++ strOfNums [c, d]).size ≤ 9223372036854775807 := by rw [ByteArray.size_append, l2]; omega
    simp only [Option.bind_some]
    rw [if_pos (by omega), of_some _ z1]
    simp only [Option.bind_some]
    rw [if_pos (by omega), of_some _ z2]
    simp only [Option.bind_some]
    have key := sums_same s a b c d ha' hb' hc' hd'
    rw [kn]
    simp only [Option.bind_some]
    by_cases e1 : a = c
    · rw [if_pos e1]
      by_cases e2 : b = d
      · rw [if_pos e2, if_pos (by rw [beq_iff_eq.2 (key.2 ⟨e1, e2⟩)]; rfl)]
      · rw [if_neg e2, if_pos (by rw [beq_eq_false_iff_ne.2 (fun e => e2 (key.1 e).2)]; rfl)]
    · rw [if_neg e1, if_pos (by rw [beq_eq_false_iff_ne.2 (fun e => e1 (key.1 e).1)]; rfl)]
end Go.Proofs.Ytdmgndiglpcpfaa.PureA
