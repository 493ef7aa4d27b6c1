/- PLAIN: the document's sums, products and quotients; its sum of a task, its response, its answer on all tasks are those of the recurrence. -/
import Derived.Test.YtpjobjgfigplhaaRtaAcc
import Derived.Test.YtpjobjgfigplhaaPrint24
namespace Go.Proofs.Ytpjobjgfigplhaa.Pure
open Go.RowKit Go.Proofs.Ytpjobjgfigplhaa.Print Go.Proofs.YtpjobjgfigplhaaW.PrintWords Go.Proofs.YtpjobjgfigplhaaW.PrintLast
theorem right_ref (n : Int) : camshaftref10_Right.f n = some (decide (Ok n)) := right_some n
theorem add_stuck (l : List Int) (hl : l.length ≤ 100) (d : Nat) : ∀ k i : Nat, i + d = l.length → d < k → camshaftref10_Add.l0 k l 0 4 (i : Int) = some (if ∀ x ∈ l.drop i, Ok x then (0, 4) else (0, 1)) := by
  induction d with
  | zero =>
    intro k i hi hk
    obtain ⟨k, rfl⟩ : ∃ m, k = m + 1 := ⟨k - 1, by omega⟩
    simp only [camshaftref10_Add.l0]
    rw [if_neg (by omega), List.drop_of_length_le (by omega)]
    simp
  | succ d ih =>
    intro k i hi hk
    obtain ⟨k, rfl⟩ : ∃ m, k = m + 1 := ⟨k - 1, by omega⟩
    have hlt : i < l.length := by omega
    have hd : l.drop i = l.getD i 0 :: l.drop (i + 1) := by
      rw [List.getD_eq_getElem?_getD, List.getElem?_eq_getElem hlt]
      exact List.drop_eq_getElem_cons hlt
    have w : wrap64 ((i : Int) + 1) = ((i + 1 : Nat) : Int) := by rw [wrap_in (by omega)]; omega
    simp only [camshaftref10_Add.l0]
    rw [if_pos (by omega), if_pos (by omega), rd_nat, right_ref, hd, w]
    simp only [Option.bind_some, decide_eq_true_eq]
    by_cases h : Ok (l.getD i 0)
    · have h' := h
      unfold Ok at h'
      have hw : wrap64 (4611686018427387904 - l.getD i 0) = 4611686018427387904 - l.getD i 0 := wrap_in (by omega)
      rw [if_pos h, hw, if_neg (by omega), if_neg (by decide), ih k (i + 1) (by omega) (by omega)]
      simp only [List.mem_cons, forall_eq_or_imp, h, true_and]
    · rw [if_neg h]
      simp only [List.mem_cons, forall_eq_or_imp, h, false_and, if_false]
theorem add_ref_loop (l : List Int) (hl : l.length ≤ 100) (d : Nat) : ∀ (k i : Nat) (s : Int), i + d = l.length → Ok s → d < k →
    camshaftref10_Add.l0 k l s 0 (i : Int) = some (if ∀ x ∈ l.drop i, Ok x then (if s + sum (l.drop i) < 4611686018427387904 then (s + sum (l.drop i), 0) else (0, 4)) else (0, 1)) := by
  induction d with
  | zero =>
    intro k i s hi hs hk
    obtain ⟨k, rfl⟩ : ∃ m, k = m + 1 := ⟨k - 1, by omega⟩
    have e : s + sum (l.drop i) = s := by rw [List.drop_of_length_le (by omega)]; show s + 0 = s; omega
    simp only [camshaftref10_Add.l0]
    rw [if_neg (by omega), e, if_pos hs.2, List.drop_of_length_le (by omega)]
    simp
  | succ d ih =>
    intro k i s hi hs hk
    obtain ⟨k, rfl⟩ : ∃ m, k = m + 1 := ⟨k - 1, by omega⟩
    have hlt : i < l.length := by omega
    have hd : l.drop i = l.getD i 0 :: l.drop (i + 1) := by
      rw [List.getD_eq_getElem?_getD, List.getElem?_eq_getElem hlt]
      exact List.drop_eq_getElem_cons hlt
    have w : wrap64 ((i : Int) + 1) = ((i + 1 : Nat) : Int) := by rw [wrap_in (by omega)]; omega
    simp only [camshaftref10_Add.l0]
    rw [if_pos (by omega), if_pos (by omega), rd_nat, right_ref, hd, w, sum_cons]
    simp only [Option.bind_some, decide_eq_true_eq]
    by_cases h : Ok (l.getD i 0)
    · have h' := h
      have hs' := hs
      unfold Ok at h' hs'
      have hw : wrap64 (4611686018427387904 - l.getD i 0) = 4611686018427387904 - l.getD i 0 := wrap_in (by omega)
      have hw2 : wrap64 (s + l.getD i 0) = s + l.getD i 0 := wrap_in (by omega)
      rw [if_pos h, hw, hw2]
      simp only [List.mem_cons, forall_eq_or_imp, h, true_and, if_true]
      by_cases hb : s ≥ 4611686018427387904 - l.getD i 0
      · rw [if_pos hb, if_neg (by decide), add_stuck l hl d k (i + 1) (by omega) (by omega)]
        by_cases ha : ∀ x ∈ l.drop (i + 1), Ok x
        · have := sum_nonneg _ ha
          rw [if_pos ha, if_pos ha, if_neg (by omega)]
        · rw [if_neg ha, if_neg ha]
      · rw [if_neg hb, ih k (i + 1) _ (by omega) (by unfold Ok; omega) (by omega), show s + l.getD i 0 + sum (l.drop (i + 1)) = s + (l.getD i 0 + sum (l.drop (i + 1))) by omega]
    · rw [if_neg h]
      simp only [List.mem_cons, forall_eq_or_imp, h, false_and, if_false]
theorem add_ref (l : List Int) (hl : l.length ≤ 100) (k : Nat) (hk : l.length < k) : camshaftref10_Add.f k l = some (add l) := by
  unfold camshaftref10_Add.f add
  have h := add_ref_loop l hl l.length k 0 0 (by omega) (by unfold Ok; omega) hk
  rw [show ((0 : Nat) : Int) = 0 from rfl, List.drop_zero, Int.zero_add] at h
  exact h
theorem mul_ref (a b : Int) (k : Nat) (hk : 1 ≤ k) : camshaftref10_Mul.f k a b = some (mul a b) := by
  obtain ⟨k, rfl⟩ : ∃ m, k = m + 1 := ⟨k - 1, by omega⟩
  unfold camshaftref10_Mul.f mul
  rw [right_ref, right_ref]
  simp only [Option.bind_some, decide_eq_true_eq]
  by_cases ha : Ok a
  · by_cases hb : Ok b
    · have hab : Ok a ∧ Ok b := ⟨ha, hb⟩
      rw [if_pos ha, if_pos hab, decide_eq_true hb]
      simp only [camshaftref10_Mul.j0, Bool.not_true, Bool.false_eq_true, if_false]
      unfold Ok at ha hb
      by_cases b0 : b > 0
      · have hq1 : (4611686018427387903 : Int) / b ≤ 4611686018427387903 := Int.ediv_le_self _ (by omega)
        have hq0 : (0 : Int) ≤ 4611686018427387903 / b := Int.ediv_nonneg (by omega) (by omega)
        have hw : wrap64 ((4611686018427387903 : Int) / b) = (4611686018427387903 : Int) / b := wrap_in (by omega)
        have hm : 0 ≤ a * b := Int.mul_nonneg ha.1 hb.1
        rw [if_pos b0, if_neg (by omega), hw]
        by_cases h : a > (4611686018427387903 : Int) / b
        · rw [if_pos h, if_neg ((mul_gt a b b0).1 h)]
        · have h2 : a * b < 4611686018427387904 := Decidable.byContradiction fun h3 => h ((mul_gt a b b0).2 h3)
          rw [if_neg h, if_pos h2, wrap_in (by omega)]
      · have e : b = 0 := by omega
        rw [if_neg b0, e, Int.mul_zero, wrap_in (by omega), if_pos (by omega)]
    · rw [if_pos ha, if_neg (fun h => hb h.2), decide_eq_false hb]
      simp only [camshaftref10_Mul.j0, Bool.not_false, if_true]
  · rw [if_neg ha, if_neg (fun h => ha h.1)]
    simp only [camshaftref10_Mul.j0, if_true]
theorem ceil_two (a b : Int) (hb : 0 < b) : (a + b - 1) / b = if a % b > 0 then a / b + 1 else a / b := by
  have h1 := Int.mul_ediv_add_emod a b
  have h2 := Int.emod_nonneg a (b := b) (by omega)
  have h3 := Int.emod_lt_of_pos a hb
  have hne : b ≠ 0 := by omega
  have e : a + b - 1 = (a % b + b - 1) + a / b * b := by
    have := Int.mul_comm b (a / b)
    omega
  rw [e, Int.add_mul_ediv_right _ _ hne]
  by_cases h : a % b > 0
  · rw [if_pos h]
    have e2 : (a % b + b - 1) / b = 1 := by
      rw [show a % b + b - 1 = (a % b - 1) + 1 * b by omega, Int.add_mul_ediv_right _ _ hne, Int.ediv_eq_zero_of_lt (by omega) (by omega)]
      rfl
    omega
  · rw [if_neg h]
    have e2 : (a % b + b - 1) / b = 0 := Int.ediv_eq_zero_of_lt (by omega) (by omega)
    omega
theorem ceil_ref (a b : Int) (k : Nat) (hk : 1 ≤ k) : camshaftref10_Ceil.f k a b = some (ceil a b) := by
  obtain ⟨k, rfl⟩ : ∃ m, k = m + 1 := ⟨k - 1, by omega⟩
  unfold camshaftref10_Ceil.f ceil
  rw [right_ref, right_ref]
  simp only [Option.bind_some, decide_eq_true_eq]
  by_cases ha : Ok a
  · rw [if_pos ha]
    by_cases hb : Ok b
    · rw [if_pos hb]
      simp only [camshaftref10_Ceil.j0, beq_iff_eq]
      by_cases b0 : b = 0
      · rw [if_pos b0, if_neg (fun h => h.2.2 b0)]
      · have hc : Ok a ∧ Ok b ∧ b ≠ 0 := ⟨ha, hb, b0⟩
        rw [if_neg b0, if_pos hc, if_neg b0]
        unfold Ok at ha hb
        have h1 : a / b ≤ a := Int.ediv_le_self _ (by omega)
        have h0 : 0 ≤ a / b := Int.ediv_nonneg (by omega) (by omega)
        rw [Int.tmod_eq_emod_of_nonneg ha.1, Int.tdiv_eq_ediv_of_nonneg ha.1, wrap_in (x := a / b) (by omega), wrap_in (by omega), ceil_two a b (by omega)]
        by_cases h : a % b > 0
        · rw [if_pos h, if_pos h]
        · rw [if_neg h, if_neg h]
    · rw [if_neg hb, if_neg (fun h => hb h.2.1)]
      simp only [camshaftref10_Ceil.j0, if_true]
  · rw [if_neg ha, if_neg (fun h => ha h.1)]
    simp only [camshaftref10_Ceil.j0, if_true]
end Go.Proofs.Ytpjobjgfigplhaa.Pure
