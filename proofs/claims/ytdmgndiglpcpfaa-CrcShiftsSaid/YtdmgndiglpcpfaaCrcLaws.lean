/- PLAIN: strings of bytes as lists of numbers: what the sum does with strings that are joined, cut and sealed. -/
import Derived.Test.YtdmgndiglpcpfaaCrcPlain
import Derived.Test.YtdmgndiglpcpfaaWWords
namespace Go.Proofs.Ytdmgndiglpcpfaa.CrcPlain
open Go.RowKit Go.Proofs.YtdmgndiglpcpfaaW.PrintWords
theorem nats_append (s t : ByteArray) : nats (s ++ t) = nats s ++ nats t := by
  simp [nats]
theorem nats_of (xs : List Int) (h : ∀ x ∈ xs, 0 ≤ x ∧ x < 256) : nats (strOfNums xs) = xs.map Int.toNat := by
  unfold nats strOfNums
  simp only [List.map_map]
  apply List.map_congr_left
  intro x hx
  have := h x hx
  simp
  omega
theorem size_of (xs : List Int) : (strOfNums xs).size = xs.length := by
  simp [strOfNums, ByteArray.size]
theorem nats_extract (s : ByteArray) (a b : Nat) : nats (s.extract a b) = ((nats s).take b).drop a := by
  simp [nats, List.drop_take]
theorem bt_nat (s : ByteArray) (i : Int) : bt s i = (((nats s).getD i.toNat 0 : Nat) : Int) := by
  unfold bt nats
  split
  · rename_i h
    have h' : i.toNat < s.data.toList.length := by simpa using h
    rw [List.getD_eq_getElem?_getD, List.getElem?_map, List.getElem?_eq_getElem h']
    rfl
  · rename_i h
    rw [List.getD_eq_getElem?_getD, List.getElem?_map, List.getElem?_eq_none (by simpa using h)]
    rfl
theorem nats_inj {s t : ByteArray} (h : nats s = nats t) : s = t := by
  have h1 : s.data.toList = t.data.toList := by
    unfold nats at h
    exact (List.map_inj_right (fun a b e => UInt8.toNat_inj.1 e)).1 h
  apply ByteArray.ext
  exact Array.toList_inj.1 h1
theorem crcOn_append (a : Int) (s t : ByteArray) : crcOn a (s ++ t) = crcOn (crcOn a s) t := by
  have hl := on_lt (n := (a % 65536).toNat) (by omega) (nats s)
  unfold crcOn
  rw [nats_append, on_append]
  congr 2
  omega
theorem crcOn_range (a : Int) (s : ByteArray) : 0 ≤ crcOn a s ∧ crcOn a s < 65536 := by
  have hl := on_lt (n := (a % 65536).toNat) (by omega) (nats s)
  unfold crcOn
  omega
theorem crcOn_two (n x y : Int) (hn : 0 ≤ n ∧ n < 65536) (hx : 0 ≤ x ∧ x < 256) (hy : 0 ≤ y ∧ y < 256) : crcOn n (strOfNums [x, y]) = 0 ↔ n = 256 * x + y := by
  unfold crcOn
  rw [nats_of _ (by
    intro z hz
    simp only [List.mem_cons, List.not_mem_nil, or_false] at hz
    rcases hz with rfl | rfl <;> assumption)]
  have h := on_two_zero (n := (n % 65536).toNat) (a := x.toNat) (b := y.toNat) (by omega) (by omega) (by omega)
  simp only [List.map_cons, List.map_nil]
  constructor
  · intro e
    have := h.1 (by omega)
    omega
  · intro e
    have := h.2 (by omega)
    omega
theorem list_at (l : List Nat) (k : Nat) (h : k + 1 < l.length) : l = l.take k ++ ([l.getD k 0, l.getD (k + 1) 0] ++ l.drop (k + 2)) := by
  have h1 : l.drop k = l.getD k 0 :: l.drop (k + 1) := by
    rw [List.getD_eq_getElem?_getD, List.getElem?_eq_getElem (by omega)]
    exact List.drop_eq_getElem_cons (by omega)
  have h2 : l.drop (k + 1) = l.getD (k + 1) 0 :: l.drop (k + 2) := by
    rw [List.getD_eq_getElem?_getD, List.getElem?_eq_getElem (by omega)]
    exact List.drop_eq_getElem_cons (by omega)
  calc l = l.take k ++ l.drop k := (List.take_append_drop k l).symm
    _ = _ := by rw [h1, h2]; rfl
theorem getD_lt (s : ByteArray) (k : Nat) : (nats s).getD k 0 < 256 := by
  rw [List.getD_eq_getElem?_getD]
  by_cases h : k < (nats s).length
  · rw [List.getElem?_eq_getElem h]; exact nats_lt s _ (List.getElem_mem h)
  · rw [List.getElem?_eq_none (by omega)]; exact Nat.zero_lt_succ _
/-- two bytes side by side, others in their place: the sum is the same just if they are the same -/
theorem crcOn_at (s : ByteArray) (k : Nat) (h : k + 1 < s.size) (x y : Int) (hx : 0 ≤ x ∧ x < 256) (hy : 0 ≤ y ∧ y < 256) :
    crcOn 0 (s.extract 0 k ++ strOfNums [x, y] ++ s.extract (k + 2) s.size) = crcOn 0 s ↔ x = bt s k ∧ y = bt s (k + 1) := by
  have h2 : (nats (s.extract 0 k ++ strOfNums [x, y] ++ s.extract (k + 2) s.size)) = (nats s).take k ++ ([x.toNat, y.toNat] ++ (nats s).drop (k + 2)) := by
    rw [nats_append, nats_append, nats_extract, nats_extract, nats_of _ (by
      intro z hz
      simp only [List.mem_cons, List.not_mem_nil, or_false] at hz
      rcases hz with rfl | rfl <;> assumption), List.take_of_length_le (i := s.size) (by rw [nats_length]; omega)]
    simp
  have h3 := list_at (nats s) k (by rw [nats_length]; exact h)
  unfold crcOn
  rw [h2]
  have e : on (((0 : Int) % 65536).toNat) (nats s) = on 0 ((nats s).take k ++ ([(nats s).getD k 0, (nats s).getD (k + 1) 0] ++ (nats s).drop (k + 2))) := by
    rw [← h3]; rfl
  rw [e]
  have e0 : ((0 : Int) % 65536).toNat = 0 := rfl
  rw [e0, on_append, on_append, on_append, on_append]
  have hp : on 0 ((nats s).take k) < 65536 := on_lt (by omega) _
  have hb1 := getD_lt s k
  have hb2 := getD_lt s (k + 1)
  rw [bt_nat, bt_nat, Int.ofNat_inj, on_inj (on_lt hp _) (on_lt hp _) _ (fun z hz => nats_lt s z (List.mem_of_mem_drop hz)), on_two_inj hp (by omega) (by omega) hb1 hb2]
  have e1 : ((k : Int)).toNat = k := by omega
  have e2 : ((k : Int) + 1).toNat = k + 1 := by omega
  rw [e1, e2]
  omega
end Go.Proofs.Ytdmgndiglpcpfaa.CrcPlain
