/- The plain statement of CrcTells: the sum of any bytes, on from any sum, what is sealed, and what any bytes open to, is as the document says. -/
import Derived.Test.YtdmgndiglpcpfaaPrint1
import Derived.Test.YtdmgndiglpcpfaaCrcPure
import Derived.Laws.Strings
namespace Go.Proofs.Ytdmgndiglpcpfaa.Pure
open Go.RowKit Go.Proofs.Ytdmgndiglpcpfaa.Print Go.Proofs.YtdmgndiglpcpfaaW.PrintWords Go.Proofs.YtdmgndiglpcpfaaW.PrintLast

open CrcPlain
theorem dbl_int (n : Nat) (hn : n < 65536) :
    (if wrap64 (2 * (n : Int)) ≥ 65536 then bits .xor .i64 (wrap64 (wrap64 (2 * (n : Int)) - 65536)) 4129 else wrap64 (2 * (n : Int))) = ((dbl n : Nat) : Int) := by
  have w1 : wrap64 (2 * (n : Int)) = 2 * (n : Int) := by unfold wrap64; omega
  rw [w1]
  by_cases h : 32768 ≤ n
  · have w2 : wrap64 (2 * (n : Int) - 65536) = ((2 * n % 65536 : Nat) : Int) := by unfold wrap64; omega
    rw [if_pos (by omega), w2, dbl_hi h]
    exact xor_nat (2 * n % 65536) 4129 (by omega) (by decide)
  · rw [if_neg (by omega), dbl_lo h]
    omega
theorem ref_bits (s : ByteArray) (i : Nat) (hi : i < s.size) (hs : s.size ≤ 140737488351232) (d : Nat) : ∀ (k j n : Nat), j + d = 8 → n < 65536 → d < k →
    camshaftref03_On.l1 k s (n : Int) (i : Int) (j : Int) = camshaftref03_On.l0 (k - (d + 1)) s ((dn d n : Nat) : Int) ((i + 1 : Nat) : Int) := by
  have wi : wrap64 ((i : Int) + 1) = ((i + 1 : Nat) : Int) := by unfold wrap64; omega
  induction d with
  | zero =>
    intro k j n hj hn hk
    obtain ⟨k, rfl⟩ : ∃ m, k = m + 1 := ⟨k - 1, by omega⟩
    simp only [camshaftref03_On.l1]
    rw [if_neg (by omega), wi]
    rfl
  | succ d ih =>
    intro k j n hj hn hk
    obtain ⟨k, rfl⟩ : ∃ m, k = m + 1 := ⟨k - 1, by omega⟩
    have hd := dbl_int n hn
    have wj : wrap64 ((j : Int) + 1) = ((j + 1 : Nat) : Int) := by unfold wrap64; omega
    have h1 := ih k (j + 1) (dbl n) (by omega) dbl_lt (by omega)
    have hdn : ∀ d n, dn d (dbl n) = dn (d + 1) n := by
      intro d
      induction d with
      | zero => intro n; rfl
      | succ d ih => intro n; show dbl (dn d (dbl n)) = _; rw [ih]; rfl
    simp only [camshaftref03_On.l1]
    rw [if_pos (by omega), wj, ← apply_ite (fun z => camshaftref03_On.l1 k s z (i : Int) ((j + 1 : Nat) : Int)), hd, h1, hdn]
    congr 1
    omega
theorem ref_on (s : ByteArray) (hs : s.size ≤ 140737488351232) (d : Nat) : ∀ (k i n : Nat), i + d = s.size → n < 65536 → 10 * d < k →
    camshaftref03_On.l0 k s (n : Int) (i : Int) = some ((on n ((nats s).drop i) : Nat) : Int) := by
  induction d with
  | zero =>
    intro k i n hi hn hk
    obtain ⟨k, rfl⟩ : ∃ m, k = m + 1 := ⟨k - 1, by omega⟩
    simp only [camshaftref03_On.l0]
    rw [if_neg (by omega), List.drop_of_length_le (by rw [nats_length]; omega)]
    rfl
  | succ d ih =>
    intro k i n hi hn hk
    obtain ⟨k, rfl⟩ : ∃ m, k = m + 1 := ⟨k - 1, by omega⟩
    simp only [camshaftref03_On.l0]
    rw [if_pos (by omega), if_pos (by omega), bt_nat]
    have hc := getD_lt s i
    have ei : ((i : Int)).toNat = i := Int.toNat_natCast i
    rw [ei]
    have hdrop : (nats s).drop i = (nats s).getD i 0 :: (nats s).drop (i + 1) := by
      rw [List.getD_eq_getElem?_getD, List.getElem?_eq_getElem (by rw [nats_length]; omega)]
      exact List.drop_eq_getElem_cons (by rw [nats_length]; omega)
    rw [hdrop]
    generalize (nats s).getD i 0 = c at *
    have w1 : wrap64 (c : Int) = (c : Int) := by unfold wrap64; omega
    have w2 : wrap64 (256 * (c : Int)) = ((256 * c : Nat) : Int) := by unfold wrap64; omega
    rw [w1, w2, xor_nat n (256 * c) hn (by omega), show (0 : Int) = ((0 : Nat) : Int) from rfl, ref_bits s i (by omega) hs 8 k 0 _ (by omega) (lay_lt hn hc) (by omega)]
    rw [ih _ _ _ (by omega) (dn_lt (lay_lt hn hc) 8) (by omega)]
    rfl
theorem ref_on_some (s : ByteArray) (hs : s.size ≤ 140737488351232) (a : Int) (ha : -9223372036854775808 ≤ a ∧ a ≤ 9223372036854775807) (k : Nat) (hk : 10 * s.size < k) : camshaftref03_On.f k a s = some (crcOn a s) := by
  have e : Int.tmod (wrap64 (Int.tmod a 65536 + 65536)) 65536 = (((a % 65536).toNat : Nat) : Int) := by
    have h1 : Int.tmod a 65536 = if 0 ≤ a then a % 65536 else -((-a) % 65536) := by
      split
      · rw [Int.tmod_eq_emod_of_nonneg (by assumption)]
      · have := Int.neg_tmod (-a) 65536
        rw [Int.neg_neg] at this
        rw [this, Int.tmod_eq_emod_of_nonneg (by omega)]
    have h2 : 0 ≤ wrap64 (Int.tmod a 65536 + 65536) ∧ wrap64 (Int.tmod a 65536 + 65536) = Int.tmod a 65536 + 65536 := by
      rw [h1]
      unfold wrap64
      split <;> omega
    rw [Int.tmod_eq_emod_of_nonneg h2.1, h2.2, h1]
    split <;> omega
  unfold camshaftref03_On.f
  have h := ref_on s hs s.size k 0 (a % 65536).toNat (by omega) (by omega) hk
  rw [e, show (0 : Int) = ((0 : Nat) : Int) from rfl, h]
  rfl
theorem of_ref (s : ByteArray) (hs : s.size ≤ 140737488351232) (k : Nat) (hk : 10 * s.size < k) : camshaftref03_Of.f k s = some (crcOn 0 s) := by
  unfold camshaftref03_Of.f
  rw [ref_on_some s hs 0 (by omega) k hk]
  rfl
theorem seal_ref (s : ByteArray) (hs : s.size ≤ 140737488351232) (k : Nat) (hk : 10 * s.size < k) : camshaftref03_Seal.f k s = some (s ++ strOfNums [crcOn 0 s / 256, crcOn 0 s % 256]) := by
  have r := crcOn_range 0 s
  have e1 : wrap64 (Int.tdiv (crcOn 0 s) 256) % 256 = crcOn 0 s / 256 := by
    rw [Int.tdiv_eq_ediv_of_nonneg r.1]
    unfold wrap64
    omega
  have e2 : Int.tmod (crcOn 0 s) 256 % 256 = crcOn 0 s % 256 := by
    rw [Int.tmod_eq_emod_of_nonneg r.1]
    omega
  unfold camshaftref03_Seal.f
  rw [of_ref s hs k hk]
  simp only [Option.bind_some, e1, e2]
  rw [if_pos (by rw [size_of]; simp; omega)]
theorem sealed_iff (s : ByteArray) (h2 : ¬ s.size < 2) : s.extract 0 (s.size - 2) ++ strOfNums [crcOn 0 (s.extract 0 (s.size - 2)) / 256, crcOn 0 (s.extract 0 (s.size - 2)) % 256] = s ↔ crcOn 0 s = 0 := by
  have hl : (nats s).length = s.size := nats_length s
  have hd := list_at (nats s) (s.size - 2) (by rw [hl]; omega)
  have hb1 := getD_lt s (s.size - 2)
  have hb2 := getD_lt s (s.size - 2 + 1)
  have hdrop : (nats s).drop (s.size - 2 + 2) = [] := List.drop_of_length_le (by omega)
  rw [hdrop, List.append_nil] at hd
  generalize (nats s).getD (s.size - 2) 0 = x at *
  generalize (nats s).getD (s.size - 2 + 1) 0 = y at *
  have hs : s = s.extract 0 (s.size - 2) ++ strOfNums [(x : Int), (y : Int)] := by
    apply nats_inj
    rw [nats_append, nats_extract, nats_of _ (by
      intro z hz
      simp only [List.mem_cons, List.not_mem_nil, or_false] at hz
      rcases hz with rfl | rfl <;> omega)]
    simpa using hd
  have r := crcOn_range 0 (s.extract 0 (s.size - 2))
  have hsum : crcOn 0 s = 0 ↔ crcOn 0 (s.extract 0 (s.size - 2)) = 256 * (x : Int) + (y : Int) := by
    have e : crcOn 0 s = crcOn (crcOn 0 (s.extract 0 (s.size - 2))) (strOfNums [(x : Int), (y : Int)]) := by
      rw [← crcOn_append, ← hs]
    rw [e]
    exact crcOn_two _ _ _ r (by omega) (by omega)
  rw [hsum]
  generalize hT : s.extract 0 (s.size - 2) = T at *
  generalize crcOn 0 T = c at *
  constructor
  · intro h
    have h1 : nats (T ++ strOfNums [c / 256, c % 256]) = nats (T ++ strOfNums [(x : Int), (y : Int)]) := by rw [h, ← hs]
    rw [nats_append, nats_append, nats_of _ (by
      intro z hz
      simp only [List.mem_cons, List.not_mem_nil, or_false] at hz
      rcases hz with rfl | rfl <;> omega), nats_of _ (by
      intro z hz
      simp only [List.mem_cons, List.not_mem_nil, or_false] at hz
      rcases hz with rfl | rfl <;> omega)] at h1
    have h2 := List.append_cancel_left h1
    simp only [List.map_cons, List.map_nil, List.cons.injEq, and_true] at h2
    omega
  · intro h
    rw [hs, show c / 256 = (x : Int) by omega, show c % 256 = (y : Int) by omega]
theorem toList_eq {a b : ByteArray} (h : a.toList = b.toList) : a = b := by
  rw [ByteArray.toList_eq, ByteArray.toList_eq] at h
  exact ByteArray.ext (Array.toList_inj.1 h)
theorem open_ref (s : ByteArray) (hs : s.size ≤ 140737488351232) (k : Nat) (hk : 10 * s.size < k) :
    camshaftref03_Open.f k s = some (if s.size < 2 then (ByteArray.empty, 2) else if crcOn 0 s = 0 then (s.extract 0 (s.size - 2), 0) else (ByteArray.empty, 5)) := by
  unfold camshaftref03_Open.f
  by_cases h2 : s.size < 2
  · rw [if_pos (by omega), if_pos h2]; rfl
  · have w : wrap64 ((s.size : Int) - 2) = (s.size : Int) - 2 := by unfold wrap64; omega
    have e : ((s.size : Int) - 2).toNat = s.size - 2 := by omega
    rw [if_neg (by omega), if_neg h2, w, if_pos (by omega), if_pos (by omega), e]
    have hi := sealed_iff s h2
    rw [seal_ref _ (by rw [ByteArray.size_extract]; omega) k (by rw [ByteArray.size_extract]; omega)]
    simp only [Option.bind_some]
    by_cases h0 : crcOn 0 s = 0
    · rw [if_pos (by rw [hi.2 h0]), if_pos h0]
    · rw [if_neg (fun h => h0 (hi.1 (toList_eq h))), if_neg h0]; rfl
theorem CrcTells : camshaftlaw03_CrcTells.Pure := by
  intro s a hs ha
  have ha' : -9223372036854775808 ≤ a ∧ a ≤ 9223372036854775807 := by simpa [Lit.wf, IntKind.min, IntKind.max, IntKind.signed, IntKind.bits] using ha
  refine ⟨10 * s.size + 1, ?_⟩
  have kn := known_true
  unfold camshaftlaw03_CrcTells.f
  generalize camshaftlaw03_known.f = K at *
  subst kn
  by_cases h1 : (s.size : Int) > 1000
  · rw [if_pos h1]; rfl
  · rw [if_neg h1, open_some s (by omega), open_ref s hs _ (by omega), of_some s (by omega), of_ref s hs _ (by omega)]
    simp only [Option.bind_some, if_true]
    rw [on_some a s (by omega), ref_on_some s hs a ha' _ (by omega)]
    simp only [Option.bind_some, if_true]
    rw [seal_some s hs, seal_ref s hs _ (by omega)]
    simp only [Option.bind_some, if_true]

end Go.Proofs.Ytdmgndiglpcpfaa.Pure
