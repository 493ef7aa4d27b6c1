/- The plain statement of NumTells: what any operation makes of any two numbers, whether it is a fault, and its name, is as the document says. -/
import Derived.Test.YtbbfcfpbdgibaaaPrint10
import Derived.Test.YtbbfcfpbdgibaaaNumPure
namespace Go.Proofs.Ytbbfcfpbdgibaaa.Pure
open Go.RowKit Go.Proofs.Ytbbfcfpbdgibaaa.Print Go.Proofs.YtbbfcfpbdgibaaaW.PrintWords Go.Proofs.YtbbfcfpbdgibaaaW.PrintLast
open NumLaws Num
theorem bool_ref (p : Bool) : camshaftref01_Bool.f p = some (b2i p) := by cases p <;> rfl
theorem bool_some (p : Bool) : num_Bool.f p = some (b2i p) := by cases p <;> rfl
theorem not_some (a : Int) : num_Not.f a = some (b2i (a == 0)) := by
  unfold num_Not.f
  rw [bool_some]
  rfl
theorem shift_of (b : Int) (hb : In b) : Int.tmod (wrap64 (Int.tmod b 64 + 64)) 64 = (((b % 64).toNat : Nat) : Int) := by
  unfold In at hb
  have h1 : Int.tmod b 64 = if 0 ≤ b then b % 64 else -((-b) % 64) := by
    split
    · rw [Int.tmod_eq_emod_of_nonneg (by assumption)]
    · have := Int.neg_tmod (-b) 64
      rw [Int.neg_neg] at this
      rw [this, Int.tmod_eq_emod_of_nonneg (by omega)]
  have h2 : 0 ≤ wrap64 (Int.tmod b 64 + 64) ∧ wrap64 (Int.tmod b 64 + 64) = Int.tmod b 64 + 64 := by
    rw [h1]
    unfold wrap64
    split <;> omega
  rw [Int.tmod_eq_emod_of_nonneg h2.1, h2.2, h1]
  split <;> omega
theorem up_loop (s : Nat) (hs : s < 64) (d : Nat) : ∀ (k i : Nat) (a : Int), i + d = s → In a → d < k → camshaftref01_up.l0 k a (s : Int) (i : Int) = some (wrap64 (a * 2 ^ d)) := by
  induction d with
  | zero =>
    intro k i a hi ha hk
    obtain ⟨k, rfl⟩ : ∃ m, k = m + 1 := ⟨k - 1, by omega⟩
    simp only [camshaftref01_up.l0]
    rw [if_neg (by omega), Int.pow_zero, Int.mul_one, wrap_in ha]
  | succ d ih =>
    intro k i a hi ha hk
    obtain ⟨k, rfl⟩ : ∃ m, k = m + 1 := ⟨k - 1, by omega⟩
    have w : wrap64 ((i : Int) + 1) = ((i + 1 : Nat) : Int) := by rw [wrap_in (by unfold In; omega)]; omega
    simp only [camshaftref01_up.l0]
    rw [if_pos (by omega), w, ih k (i + 1) _ (by omega) (in_wrap _) (by omega), wrap_mul_l, show a + a = a * 2 by omega, Int.mul_assoc, Int.pow_succ, Int.mul_comm (2 ^ d) 2]
theorem half_in (a : Int) (ha : In a) : In (a / 2) := by unfold In at *; omega
theorem down_step (k : Nat) (a s : Int) (i : Nat) (ha : In a) (hi : (i : Int) < s) (h6 : i < 64) : camshaftref01_down.l0 (k + 1) a s (i : Int) = camshaftref01_down.l0 k (a / 2) s ((i + 1 : Nat) : Int) := by
  have w : wrap64 ((i : Int) + 1) = ((i + 1 : Nat) : Int) := by rw [wrap_in (by unfold In; omega)]; omega
  simp only [camshaftref01_down.l0]
  rw [if_pos hi, w]
  unfold In at ha
  have hm : Int.tmod a 2 = if 0 ≤ a then a % 2 else -((-a) % 2) := by
    split
    · rw [Int.tmod_eq_emod_of_nonneg (by assumption)]
    · have := Int.neg_tmod (-a) 2
      rw [Int.neg_neg] at this
      rw [this, Int.tmod_eq_emod_of_nonneg (by omega)]
  have hd : ∀ c : Int, In c → c % 2 = 0 → wrap64 (Int.tdiv c 2) = c / 2 := by
    intro c hc h2
    unfold In at hc
    have e : Int.tdiv c 2 = c / 2 := by
      rcases Int.lt_or_le c 0 with h | h
      · have := Int.neg_tdiv (-c) 2
        rw [Int.neg_neg] at this
        rw [this, Int.tdiv_eq_ediv_of_nonneg (by omega)]
        omega
      · rw [Int.tdiv_eq_ediv_of_nonneg h]
    rw [e, wrap_in (by unfold In; omega)]
  by_cases hneg : Int.tmod a 2 < 0
  · rw [if_pos hneg]
    rw [hm] at hneg
    have hn : ¬ 0 ≤ a := by intro h; rw [if_pos h] at hneg; omega
    rw [if_neg hn] at hneg
    have e1 : wrap64 (a - 1) = a - 1 := wrap_in (by unfold In; omega)
    rw [e1, hd (a - 1) (by unfold In; omega) (by omega)]
    congr 1
    omega
  · rw [if_neg hneg, hm]
    rw [hm] at hneg
    by_cases hn : 0 ≤ a
    · rw [if_pos hn]
      have e1 : wrap64 (a - a % 2) = a - a % 2 := wrap_in (by unfold In; omega)
      rw [e1, hd (a - a % 2) (by unfold In; omega) (by omega)]
      congr 1
      omega
    · rw [if_neg hn] at hneg ⊢
      have e1 : wrap64 (a - -(-a % 2)) = a := by rw [wrap_in (by unfold In; omega)]; omega
      rw [e1, hd a (by unfold In; omega) (by omega)]
theorem down_loop (s : Nat) (hs : s < 64) (d : Nat) : ∀ (k i : Nat) (a : Int), i + d = s → In a → d < k → camshaftref01_down.l0 k a (s : Int) (i : Int) = some (a / 2 ^ d) := by
  induction d with
  | zero =>
    intro k i a hi ha hk
    obtain ⟨k, rfl⟩ : ∃ m, k = m + 1 := ⟨k - 1, by omega⟩
    simp only [camshaftref01_down.l0]
    rw [if_neg (by omega), Int.pow_zero, Int.ediv_one]
  | succ d ih =>
    intro k i a hi ha hk
    obtain ⟨k, rfl⟩ : ∃ m, k = m + 1 := ⟨k - 1, by omega⟩
    rw [down_step k a s i ha (by omega) (by omega), ih k (i + 1) _ (by omega) (half_in a ha) (by omega)]
    have h := div_div a 1 d
    rw [show 1 + d = d + 1 by omega] at h
    rw [← h, Int.pow_succ, Int.pow_zero, Int.one_mul]
theorem div_ref (a b : Int) (ha : In a) (hb : In b) :
    camshaftref01_divided.f a b = some (if b = 0 then (0, 0, true) else (wrap64 (Int.tdiv a b), Int.tmod a b, false)) := by
  unfold camshaftref01_divided.f
  by_cases h0 : b = 0
  · rw [if_pos h0, if_pos h0]
  · rw [if_neg h0, if_neg h0]
    by_cases h1 : b = -1
    · rw [if_pos h1, h1, show Int.tdiv a (-1) = -a by rw [Int.tdiv_neg, Int.tdiv_one], show Int.tmod a (-1) = 0 by rw [Int.tmod_neg, Int.tmod_one]]
    · rw [if_neg h1]
      have e := Int.mul_tdiv_add_tmod a b
      have hr : In (Int.tmod a b) := by
        have h2 : (Int.tmod a b).natAbs ≤ a.natAbs := by
          rw [Int.natAbs_tmod]
          exact Nat.mod_le _ _
        have h3 : 0 ≤ a → 0 ≤ Int.tmod a b := Int.tmod_nonneg b
        have h4 : (Int.tmod a b).natAbs < b.natAbs := by
          rw [Int.natAbs_tmod]
          exact Nat.mod_lt _ (by omega)
        unfold In at ha hb ⊢
        omega
      rw [wrap_mul_r, wrap_sub_r, show a - b * Int.tdiv a b = Int.tmod a b by omega, wrap_in hr]
theorem two_ref (op a b : Int) (ha : In a) (hb : In b) (k : Nat) (hk : 64 < k) : camshaftref01_Two.f k op a b = some (two op a b) := by
  have hs : (b % 64).toNat < 64 := by omega
  have hu : camshaftref01_up.f k a (Int.tmod (wrap64 (Int.tmod b 64 + 64)) 64) = some (wrap64 (a * 2 ^ (b % 64).toNat)) := by
    unfold camshaftref01_up.f
    rw [shift_of b hb]
    exact up_loop _ hs _ k 0 a (by omega) ha (by omega)
  have hd : camshaftref01_down.f k a (Int.tmod (wrap64 (Int.tmod b 64 + 64)) 64) = some (a / 2 ^ (b % 64).toNat) := by
    unfold camshaftref01_down.f
    rw [shift_of b hb]
    exact down_loop _ hs _ k 0 a (by omega) ha (by omega)
  unfold camshaftref01_Two.f two
  rw [div_ref a b ha hb, hu, hd, bool_ref, bool_ref]
  simp only [Option.bind_some]
  by_cases h1 : op = 1
  · rw [if_pos h1, if_pos h1]
  rw [if_neg h1, if_neg h1]
  by_cases h2 : op = 2
  · rw [if_pos h2, if_pos h2]
  rw [if_neg h2, if_neg h2]
  by_cases h3 : op = 3
  · rw [if_pos h3, if_pos h3]
  rw [if_neg h3, if_neg h3]
  by_cases h4 : op = 4
  · subst h4
    simp only [if_true]
    by_cases h0 : b = 0
    · simp [h0]
    · simp [h0]
  rw [if_neg h4]
  by_cases h5 : op = 5
  · subst h5
    simp only [if_true]
    by_cases h0 : b = 0
    · simp [h0]
    · simp [h0]
  rw [if_neg h5]
  by_cases h6 : op = 6
  · rw [if_pos h6, if_pos h6]
  rw [if_neg h6, if_neg h6]
  by_cases h7 : op = 7
  · rw [if_pos h7, if_pos h7]
  rw [if_neg h7, if_neg h7]
  by_cases h8 : op = 8
  · rw [if_pos h8, if_pos h8]
  rw [if_neg h8, if_neg h8]
  by_cases h9 : op = 9
  · rw [if_pos h9, if_pos h9]
  rw [if_neg h9, if_neg h9]
  by_cases h10 : op = 10
  · rw [if_pos h10, if_pos h10]
  rw [if_neg h10, if_neg h10]
  by_cases h11 : op = 11
  · rw [if_pos h11, if_pos h11]
  rw [if_neg h11, if_neg h11]
  by_cases h12 : op = 12
  · rw [if_pos h12, if_pos h12]
  rw [if_neg h12, if_neg h12]
  by_cases h0 : b = 0
  · rw [if_pos h0]
  rw [if_neg h0, if_neg h4, if_neg h5]
theorem name_ref (op : Int) (h : In op) : camshaftref01_Name.f op = some (nameOf op) := by
  by_cases h0 : op < 1
  · unfold camshaftref01_Name.f nameOf
    rw [if_pos h0, if_neg (by omega), if_neg (by omega), if_neg (by omega), if_neg (by omega), if_neg (by omega), if_neg (by omega), if_neg (by omega), if_neg (by omega), if_neg (by omega), if_neg (by omega), if_neg (by omega), if_neg (by omega)]
  · by_cases h12 : op > 12
    · unfold camshaftref01_Name.f nameOf
      rw [if_neg h0, if_pos h12, if_neg (by omega), if_neg (by omega), if_neg (by omega), if_neg (by omega), if_neg (by omega), if_neg (by omega), if_neg (by omega), if_neg (by omega), if_neg (by omega), if_neg (by omega), if_neg (by omega), if_neg (by omega)]
    · have hc : op = 1 ∨ op = 2 ∨ op = 3 ∨ op = 4 ∨ op = 5 ∨ op = 6 ∨ op = 7 ∨ op = 8 ∨ op = 9 ∨ op = 10 ∨ op = 11 ∨ op = 12 := by omega
      rcases hc with rfl | rfl | rfl | rfl | rfl | rfl | rfl | rfl | rfl | rfl | rfl | rfl <;> decide +kernel
theorem NumTells : camshaftlaw01_NumTells.Pure := by
  intro op a b ho ha hb
  refine ⟨65, ?_⟩
  unfold camshaftlaw01_NumTells.f num_Neg.f num_Name.f
  rw [two_ref op a b (in_of ha) (in_of hb) 65 (by omega), name_ref op (in_of ho), not_some, bool_ref, bool_some, bool_ref]
  simp only [num_Two.f, Option.bind_some, if_true, beq_self_eq_true, known_true]

end Go.Proofs.Ytbbfcfpbdgibaaa.Pure
