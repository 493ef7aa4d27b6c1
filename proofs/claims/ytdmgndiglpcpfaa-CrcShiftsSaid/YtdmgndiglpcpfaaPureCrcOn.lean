/- The plain statement of CrcOn: a sum goes on over bytes as over all at once; two sums laid over each other are the sum of what is laid over each other. -/
import Derived.Test.YtdmgndiglpcpfaaPrintA5
import Derived.Test.YtdmgndiglpcpfaaCrcLaws
import Derived.Laws.BitsAllLaws
namespace Go.Proofs.Ytdmgndiglpcpfaa.PureA
open Go.RowKit Go.Proofs.Ytdmgndiglpcpfaa.PrintA Go.Proofs.YtdmgndiglpcpfaaW.PrintWords Go.Proofs.YtdmgndiglpcpfaaW.PrintLast CrcPlain
theorem on_some (a : Int) (s : ByteArray) (h : s.size ≤ 9223372036854775807) : crc_On.f a s = some (crcOn a s) := by
  unfold crc_On.f
  rw [if_pos h]
theorem of_some (s : ByteArray) (h : s.size ≤ 9223372036854775807) : crc_Of.f s = some (crcOn 0 s) := by
  unfold crc_Of.f
  rw [on_some 0 s h]
  rfl
theorem known_true : camshaftlaw03_known.f = some true := by
  decide +kernel
/-- what two strings' first bytes are, laid over each other -/
def laid (s t : ByteArray) (i : Nat) : List Nat := List.zipWith (· ^^^ ·) ((nats s).take i) ((nats t).take i)
def ints (l : List Nat) : List Int := l.map (fun (n : Nat) => (n : Int))
theorem laid_lt (s t : ByteArray) (i : Nat) : ∀ z ∈ laid s t i, z < 256 := by
  intro z hz
  unfold laid at hz
  rw [List.mem_iff_getElem] at hz
  obtain ⟨j, hj, e⟩ := hz
  rw [List.getElem_zipWith] at e
  rw [← e]
  exact Nat.xor_lt_two_pow (n := 8) (nats_lt s _ (List.mem_of_mem_take (List.getElem_mem _))) (nats_lt t _ (List.mem_of_mem_take (List.getElem_mem _)))
theorem laid_succ (s t : ByteArray) (i : Nat) (h1 : i < s.size) (h2 : i < t.size) : laid s t (i + 1) = laid s t i ++ [(nats s).getD i 0 ^^^ (nats t).getD i 0] := by
  have l1 : i < (nats s).length := by rw [nats_length]; exact h1
  have l2 : i < (nats t).length := by rw [nats_length]; exact h2
  unfold laid
  rw [List.take_succ_eq_append_getElem l1, List.take_succ_eq_append_getElem l2, List.zipWith_append (by rw [List.length_take, List.length_take]; omega)]
  rw [List.getD_eq_getElem?_getD, List.getD_eq_getElem?_getD, List.getElem?_eq_getElem l1, List.getElem?_eq_getElem l2]
  rfl
theorem nats_ints (l : List Nat) (h : ∀ z ∈ l, z < 256) : nats (strOfNums (ints l)) = l := by
  rw [nats_of _ (by
    intro z hz
    unfold ints at hz
    rw [List.mem_map] at hz
    obtain ⟨n, hn, rfl⟩ := hz
    have := h n hn
    omega)]
  unfold ints
  rw [List.map_map]
  conv => rhs; rw [← List.map_id l]
  apply List.map_congr_left
  intro n _
  exact Int.toNat_natCast n
theorem key_law (s t : ByteArray) (a b : Int) (ha : 0 ≤ a ∧ a ≤ 65535) (hb : 0 ≤ b ∧ b ≤ 65535) (n : Nat) (hn : n = min s.size t.size) :
    crcOn ((a.toNat ^^^ b.toNat : Nat) : Int) (strOfNums (ints (laid s t n))) = bits .xor .i64 (crcOn a (s.extract 0 n)) (crcOn b (t.extract 0 n)) := by
  have hxl : a.toNat ^^^ b.toNat < 65536 := Nat.xor_lt_two_pow (n := 16) (by omega) (by omega)
  have e0 : ((((a.toNat ^^^ b.toNat : Nat) : Int)) % 65536).toNat = a.toNat ^^^ b.toNat := by omega
  have ea : (a % 65536).toNat = a.toNat := by omega
  have eb : (b % 65536).toNat = b.toNat := by omega
  unfold crcOn
  rw [nats_ints _ (laid_lt s t n), nats_extract, nats_extract, List.drop_zero, List.drop_zero, e0, ea, eb, xor_nat _ _ (on_lt (by omega) _) (on_lt (by omega) _)]
  unfold laid
  rw [on_xor (by omega) (by omega) _ _ (by rw [List.length_take, List.length_take, nats_length, nats_length]; omega) (fun z hz => nats_lt s z (List.mem_of_mem_take hz)) (fun z hz => nats_lt t z (List.mem_of_mem_take hz))]
theorem last_law (s t : ByteArray) (hs : s.size ≤ 500) (ht : t.size ≤ 500) (a b : Int) (ha : 0 ≤ a ∧ a ≤ 65535) (hb : 0 ≤ b ∧ b ≤ 65535) (n : Nat) (hn : n = min s.size t.size) (k : Nat) :
    camshaftlaw03_CrcOn.l0 (k + 1) s t a b (n : Int) (ints (laid s t n)) (n : Int) = some true := by
  have w1 : wrap64 a = a := by unfold wrap64; omega
  have w2 : wrap64 b = b := by unfold wrap64; omega
  have hx : bits .xor .u16 a b = ((a.toNat ^^^ b.toNat : Nat) : Int) := u16_xor a b ha.1 (by omega) hb.1 (by omega)
  have hxl : a.toNat ^^^ b.toNat < 65536 := Nat.xor_lt_two_pow (n := 16) (by omega) (by omega)
  have w3 : wrap64 (bits .xor .u16 a b) = ((a.toNat ^^^ b.toNat : Nat) : Int) := by rw [hx]; unfold wrap64; omega
  have tn : ((n : Int)).toNat = n := Int.toNat_natCast n
  have hl : (ints (laid s t n)).length ≤ 500 := by
    unfold ints laid
    rw [List.length_map, List.length_zipWith, List.length_take, nats_length]
    omega
  have key := key_law s t a b ha hb n hn
  have kn := known_true
  have z1 : s.size ≤ 9223372036854775807 := by omega
  have z2 : t.size ≤ 9223372036854775807 := by omega
  have z3 : (s ++ t).size ≤ 9223372036854775807 := by rw [ByteArray.size_append]; omega
  have z4 : (strOfNums (ints (laid s t n))).size ≤ 9223372036854775807 := by rw [size_of]; omega
  have z5 : (s.extract 0 n).size ≤ 9223372036854775807 := by rw [ByteArray.size_extract]; omega
  have z6 : (t.extract 0 n).size ≤ 9223372036854775807 := by rw [ByteArray.size_extract]; omega
  simp only [camshaftlaw03_CrcOn.l0]
  rw [if_neg (by omega), of_some s z1]
  simp only [Option.bind_some]
  rw [on_some _ t z2]
  simp only [Option.bind_some]
  rw [if_pos (by omega), of_some _ z3]
  simp only [Option.bind_some]
  rw [if_pos (crcOn_append 0 s t).symm, w3, on_some _ _ z4]
  simp only [Option.bind_some]
  rw [if_pos (by omega), if_pos (by omega), w1, w2, tn, on_some _ _ z5]
  simp only [Option.bind_some]
  rw [if_pos (by omega), on_some _ _ z6]
  simp only [Option.bind_some]
  rw [if_pos key, kn]
  rfl
theorem loop_law (s t : ByteArray) (hs : s.size ≤ 500) (ht : t.size ≤ 500) (a b : Int) (ha : 0 ≤ a ∧ a ≤ 65535) (hb : 0 ≤ b ∧ b ≤ 65535) (n : Nat) (hn : n = min s.size t.size) (d : Nat) :
    ∀ k i : Nat, i + d = n → d < k → camshaftlaw03_CrcOn.l0 k s t a b (n : Int) (ints (laid s t i)) (i : Int) = some true := by
  induction d with
  | zero =>
    intro k i hi hk
    obtain ⟨k, rfl⟩ : ∃ m, k = m + 1 := ⟨k - 1, by omega⟩
    have e : i = n := by omega
    subst e
    exact last_law s t hs ht a b ha hb i hn k
  | succ d ih =>
    intro k i hi hk
    obtain ⟨k, rfl⟩ : ∃ m, k = m + 1 := ⟨k - 1, by omega⟩
    have w : wrap64 ((i : Int) + 1) = ((i + 1 : Nat) : Int) := by unfold wrap64; omega
    have hl : (ints (laid s t i)).length ≤ 500 := by
      unfold ints laid
      rw [List.length_map, List.length_zipWith, List.length_take, nats_length]
      omega
    have h := ih k (i + 1) (by omega) (by omega)
    rw [laid_succ s t i (by omega) (by omega)] at h
    have c1 := getD_lt s i
    have c2 := getD_lt t i
    have ti : ((i : Int)).toNat = i := Int.toNat_natCast i
    simp only [camshaftlaw03_CrcOn.l0]
    rw [if_pos (by omega), if_pos (by omega), if_pos (by omega), if_pos (by omega), if_pos (by omega), w, bt_nat, bt_nat, ti, u8_xor_nat _ _ c1 c2]
    have e : ints (laid s t i ++ [(nats s).getD i 0 ^^^ (nats t).getD i 0]) = ints (laid s t i) ++ [(((nats s).getD i 0 ^^^ (nats t).getD i 0 : Nat) : Int)] := by
      unfold ints
      rw [List.map_append]
      rfl
    rw [e] at h
    exact h
theorem CrcOn (s t : ByteArray) (a b : Int) (ha : (Lit.int .u16 a).wf = true) (hb : (Lit.int .u16 b).wf = true) : ∃ k, camshaftlaw03_CrcOn.f k s t a b = some true := by
  have ha' : 0 ≤ a ∧ a ≤ 65535 := by simpa [Lit.wf, IntKind.min, IntKind.max, IntKind.signed, IntKind.bits] using ha
  have hb' : 0 ≤ b ∧ b ≤ 65535 := by simpa [Lit.wf, IntKind.min, IntKind.max, IntKind.signed, IntKind.bits] using hb
  refine ⟨600, ?_⟩
  have kn := known_true
  unfold camshaftlaw03_CrcOn.f
  by_cases h1 : (s.size : Int) > 500
  · rw [if_pos h1]
    simp only [camshaftlaw03_CrcOn.j0, if_true, kn, Option.bind_some]
  · rw [if_neg h1]
    by_cases h2 : (t.size : Int) > 500
    · simp only [camshaftlaw03_CrcOn.j0, decide_eq_true h2, if_true, kn, Option.bind_some]
    · simp only [camshaftlaw03_CrcOn.j0, decide_eq_false h2, Bool.false_eq_true, if_false]
      have e : mn (s.size : Int) (t.size : Int) = ((min s.size t.size : Nat) : Int) := by unfold mn; split <;> omega
      rw [e]
      have e0 : ([] : List Int) = ints (laid s t 0) := by simp [ints, laid]
      rw [e0]
      exact loop_law s t (by omega) (by omega) a b ha' hb' _ rfl (min s.size t.size) 599 0 (by omega) (by omega)
end Go.Proofs.Ytdmgndiglpcpfaa.PureA
