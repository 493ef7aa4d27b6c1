/- The plain statement of CrcOpens: what is sealed is opened, its sum is 0, and turned in one to sixteen bits side by side it is not opened. -/
import Derived.Test.YtdmgndiglpcpfaaPrint2
import Derived.Test.YtdmgndiglpcpfaaCrcPure
import Derived.Laws.BitsAllLaws
namespace Go.Proofs.Ytdmgndiglpcpfaa.Pure
open Go.RowKit Go.Proofs.Ytdmgndiglpcpfaa.Print Go.Proofs.YtdmgndiglpcpfaaW.PrintWords Go.Proofs.YtdmgndiglpcpfaaW.PrintLast

open CrcPlain
theorem xor_same (x h : Int) (hx : 0 ≤ x ∧ x ≤ 255) (hh : 0 ≤ h ∧ h < 256) : (0 ≤ bits .xor .u8 x h ∧ bits .xor .u8 x h < 256) ∧ (bits .xor .u8 x h = x ↔ h = 0) := by
  rw [u8_xor x h hx.1 (by omega) hh.1 hh.2]
  have hlt : x.toNat ^^^ h.toNat < 256 := Nat.xor_lt_two_pow (n := 8) (by omega) (by omega)
  refine ⟨by omega, ?_⟩
  constructor
  · intro e
    have e1 : x.toNat ^^^ h.toNat = x.toNat := by omega
    have e2 : x.toNat ^^^ (x.toNat ^^^ h.toNat) = 0 := by rw [e1, Nat.xor_self]
    rw [← Nat.xor_assoc, Nat.xor_self, Nat.zero_xor] at e2
    omega
  · intro e
    subst e
    simp
    omega
theorem extract_front (s t : ByteArray) : (s ++ t).extract 0 s.size = s := by
  apply nats_inj
  rw [nats_extract, nats_append, List.take_append_of_le_length (by rw [nats_length]; omega), List.take_of_length_le (by rw [nats_length]; omega)]
  rfl
theorem u16_hi (turn : Int) (ht : 0 ≤ turn ∧ turn ≤ 65535) : IntKind.u16.wrap (Int.tdiv turn 256) % 256 = turn / 256 := by
  rw [Int.tdiv_eq_ediv_of_nonneg ht.1, IntKind.wrap_u16]
  omega
theorem u16_lo (turn : Int) (ht : 0 ≤ turn ∧ turn ≤ 65535) : Int.tmod turn 256 % 256 = turn % 256 := by
  rw [Int.tmod_eq_emod_of_nonneg ht.1]
  omega
theorem opens_core (t : ByteArray) (a turn : Int) (h2 : 2 ≤ t.size) (h5 : t.size ≤ 600) (hz : crcOn 0 t = 0) (ha' : 0 ≤ a ∧ a ≤ 65535) (ht' : 0 ≤ turn ∧ turn ≤ 65535) :
    camshaftlaw03_CrcOpens.j0 1 a turn t false = some true := by
  have d1 := u16_hi turn ht'
  have d2 := u16_lo turn ht'
  have w1 : wrap64 ((t.size : Int) - 1) = (t.size : Int) - 1 := by unfold wrap64; omega
  have w2 : wrap64 a = a := by unfold wrap64; omega
  obtain ⟨k, hk, Hk⟩ : ∃ k : Nat, k + 1 < t.size ∧ Int.tmod a ((t.size : Int) - 1) = (k : Int) := by
    rw [Int.tmod_eq_emod_of_nonneg ha'.1]
    have := Int.emod_nonneg a (b := (t.size : Int) - 1) (by omega)
    have := Int.emod_lt_of_pos a (b := (t.size : Int) - 1) (by omega)
    exact ⟨(a % ((t.size : Int) - 1)).toNat, by omega, by omega⟩
  have w3 : wrap64 ((k : Int) + 1) = (k : Int) + 1 := by clear Hk d1 d2; unfold wrap64; omega
  have w4 : wrap64 ((k : Int) + 2) = (k : Int) + 2 := by clear Hk d1 d2; unfold wrap64; omega
  have t1 : ((k : Int)).toNat = k := Int.toNat_natCast k
  have t2 : ((k : Int) + 2).toNat = k + 2 := by clear Hk d1 d2; omega
  simp only [camshaftlaw03_CrcOpens.j0, Bool.false_eq_true, if_false, w1, w2, Hk, w3, w4, t1, t2, d1, d2, Option.bind_some, ByteArray.size_append, ByteArray.size_extract, size_of, List.length_cons, List.length_nil]
  clear Hk d1 d2 w1 w2 w3 w4
  rw [if_neg (by omega), if_pos (by omega), if_pos (by omega), if_pos (by omega), if_pos (by omega), if_pos (by omega), if_pos (by omega), if_pos (by omega), if_pos (by omega), if_pos (by omega)]
  have r1 := bt_range t k
  have r2 := bt_range t ((k : Int) + 1)
  obtain ⟨b1, c1⟩ := xor_same (bt t k) (turn / 256) r1 (by omega)
  obtain ⟨b2, c2⟩ := xor_same (bt t ((k : Int) + 1)) (turn % 256) r2 (by omega)
  have key := crcOn_at t k hk _ _ b1 b2
  rw [c1, c2, hz] at key
  rw [open_some _ (by simp only [ByteArray.size_append, ByteArray.size_extract, size_of, List.length_cons, List.length_nil]; omega)]
  rw [if_neg (by simp only [ByteArray.size_append, ByteArray.size_extract, size_of, List.length_cons, List.length_nil]; omega)]
  have kn := known_true
  generalize camshaftlaw03_known.f = K at *
  subst kn
  by_cases h0 : turn = 0
  · have e := key.2 ⟨by rw [h0]; rfl, by rw [h0]; rfl⟩
    rw [if_pos e, h0]
    rfl
  · have e : ¬ crcOn 0 (t.extract 0 k ++ strOfNums [bits .xor .u8 (bt t k) (turn / 256), bits .xor .u8 (bt t ((k : Int) + 1)) (turn % 256)] ++ t.extract (k + 2) t.size) = 0 := by
      intro e
      have h := key.1 e
      clear key e r1 r2 b1 b2 c1 c2
      omega
    rw [if_neg e]
    have hb : (turn == 0) = false := beq_eq_false_iff_ne.2 h0
    simp only [Option.bind_some, hb]
    rfl
theorem CrcOpens : camshaftlaw03_CrcOpens.Pure := by
  intro s a turn hs ha ht
  have ha' : 0 ≤ a ∧ a ≤ 65535 := by simpa [Lit.wf, IntKind.min, IntKind.max, IntKind.signed, IntKind.bits] using ha
  have ht' : 0 ≤ turn ∧ turn ≤ 65535 := by simpa [Lit.wf, IntKind.min, IntKind.max, IntKind.signed, IntKind.bits] using ht
  refine ⟨1, ?_⟩
  unfold camshaftlaw03_CrcOpens.f
  by_cases h1 : (s.size : Int) > 500
  · rw [if_pos h1, known_true]; rfl
  · rw [if_neg h1, seal_some s hs]
    simp only [Option.bind_some]
    have hz := crcOn_seal s
    have hsz : (s ++ strOfNums [crcOn 0 s / 256, crcOn 0 s % 256]).size = s.size + 2 := by rw [ByteArray.size_append, size_of]; rfl
    have hfr := extract_front s (strOfNums [crcOn 0 s / 256, crcOn 0 s % 256])
    generalize s ++ strOfNums [crcOn 0 s / 256, crcOn 0 s % 256] = t at *
    rw [open_some t (by omega), if_neg (by omega), if_pos hz, hsz, show s.size + 2 - 2 = s.size by omega, hfr]
    simp only [Option.bind_some, if_true]
    rw [of_some t (by omega), hz]
    simp only [Option.bind_some, if_true]
    rw [show decide (((s.size + 2 : Nat) : Int) < 2) = false by simp; omega]
    exact opens_core t a turn (by omega) (by omega) hz ha' ht'

end Go.Proofs.Ytdmgndiglpcpfaa.Pure
