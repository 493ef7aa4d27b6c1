/- PLAIN: sums, products and quotients of the program as plain functions on whole numbers: what the printed functions come to, once they have rounds enough. -/
import Derived.Test.YtpjobjgfigplhaaPrint8
import Derived.Test.YtpjobjgfigplhaaPrint7
import Derived.Test.YtpjobjgfigplhaaPrint6
import Derived.Test.YtpjobjgfigplhaaRtaMath
namespace Go.Proofs.Ytpjobjgfigplhaa.Pure
open Go.RowKit Go.Proofs.Ytpjobjgfigplhaa.Print Go.Proofs.YtpjobjgfigplhaaW.PrintWords Go.Proofs.YtpjobjgfigplhaaW.PrintLast
/-- 2^62, behind a name -/
def top : Int := 4611686018427387904
def Ok (n : Int) : Prop := 0 ≤ n ∧ n < 4611686018427387904
instance (n : Int) : Decidable (Ok n) := by unfold Ok; exact inferInstance
theorem wrap_in {x : Int} (h : -9223372036854775808 ≤ x ∧ x ≤ 9223372036854775807) : wrap64 x = x := by unfold wrap64; omega
theorem in_of {a : Int} (h : (Lit.int .i64 a).wf = true) : -9223372036854775808 ≤ a ∧ a ≤ 9223372036854775807 := by
  simpa [Lit.wf, IntKind.min, IntKind.max, IntKind.signed, IntKind.bits] using h
theorem right_some (n : Int) : nat_Right.f n = some (decide (Ok n)) := by
  unfold nat_Right.f
  by_cases h : n ≥ 0
  · rw [if_pos h]
    congr 1
    rw [decide_eq_decide]
    unfold Ok
    omega
  · rw [if_neg h]
    congr 1
    rw [eq_comm, decide_eq_false_iff_not]
    unfold Ok
    omega
/-- a sum of what is right: as far as there is room -/
def add (l : List Int) : Int × Int := if ∀ x ∈ l, Ok x then (if sum l < 4611686018427387904 then (sum l, 0) else (0, 4)) else (0, 1)
def mul (a b : Int) : Int × Int := if Ok a ∧ Ok b then (if a * b < 4611686018427387904 then (a * b, 0) else (0, 4)) else (0, 1)
def ceil (a b : Int) : Int × Int := if Ok a ∧ Ok b ∧ b ≠ 0 then ((a + b - 1) / b, 0) else (0, 1)
theorem sum_nonneg (l : List Int) (h : ∀ x ∈ l, Ok x) : 0 ≤ sum l := by
  induction l with
  | nil => exact Int.le_refl 0
  | cons x l ih =>
    have h1 := (h x (by simp)).1
    have h2 := ih (fun y hy => h y (by simp [hy]))
    rw [sum_cons]; omega
theorem rd_nat (l : List Int) (i : Nat) : rd l (i : Int) = l.getD i 0 := by unfold rd; rw [Int.toNat_natCast]
theorem all_some (l : List Int) (hl : l.length ≤ 1000000) (d : Nat) : ∀ k i : Nat, i + d = l.length → d < k → nat_all.l0 k l (l.length : Int) (i : Int) = some (decide (∀ x ∈ l.drop i, Ok x)) := by
  induction d with
  | zero =>
    intro k i hi hk
    obtain ⟨k, rfl⟩ : ∃ m, k = m + 1 := ⟨k - 1, by omega⟩
    simp only [nat_all.l0]
    rw [if_neg (by omega), List.drop_of_length_le (by omega)]
    simp
  | succ d ih =>
    intro k i hi hk
    obtain ⟨k, rfl⟩ : ∃ m, k = m + 1 := ⟨k - 1, by omega⟩
    have hlt : i < l.length := by omega
    have hd : l.drop i = l.getD i 0 :: l.drop (i + 1) := by
      rw [List.getD_eq_getElem?_getD, List.getElem?_eq_getElem hlt]
      exact List.drop_eq_getElem_cons hlt
    have w : wrap64 ((i : Int) + 1) = ((i + 1 : Nat) : Int) := by rw [wrap_in (by omega)]; omega
    simp only [nat_all.l0]
    rw [if_pos (by omega), if_pos (by omega), if_pos (by omega), right_some, rd_nat, hd, w]
    simp only [Option.bind_some]
    by_cases h : Ok (l.getD i 0)
    · rw [if_pos (decide_eq_true h), ih k (i + 1) (by omega) (by omega)]
      simp only [List.mem_cons, forall_eq_or_imp, h, true_and]
    · rw [if_neg (by rw [decide_eq_false h]; decide)]
      simp only [List.mem_cons, forall_eq_or_imp, h, false_and, decide_false]
theorem add_loop (l : List Int) (hl : l.length ≤ 1000000) (ha : ∀ x ∈ l, Ok x) (d : Nat) : ∀ (k i : Nat) (s : Int), i + d = l.length → Ok s → d < k →
    nat_Add.l0 k s l (l.length : Int) (i : Int) = some (if s + sum (l.drop i) < 4611686018427387904 then (s + sum (l.drop i), 0) else (0, 4)) := by
  induction d with
  | zero =>
    intro k i s hi hs hk
    obtain ⟨k, rfl⟩ : ∃ m, k = m + 1 := ⟨k - 1, by omega⟩
    have e : s + sum (l.drop i) = s := by rw [List.drop_of_length_le (by omega)]; show s + 0 = s; omega
    simp only [nat_Add.l0]
    rw [if_neg (by omega), e, if_pos hs.2]
  | succ d ih =>
    intro k i s hi hs hk
    obtain ⟨k, rfl⟩ : ∃ m, k = m + 1 := ⟨k - 1, by omega⟩
    have hlt : i < l.length := by omega
    have hd : l.drop i = l.getD i 0 :: l.drop (i + 1) := by
      rw [List.getD_eq_getElem?_getD, List.getElem?_eq_getElem hlt]
      exact List.drop_eq_getElem_cons hlt
    have hx : Ok (l.getD i 0) := by
      rw [List.getD_eq_getElem?_getD, List.getElem?_eq_getElem hlt]
      exact ha _ (List.getElem_mem hlt)
    have hsum := sum_nonneg (l.drop (i + 1)) (fun y hy => ha y (List.mem_of_mem_drop hy))
    have w : wrap64 ((i : Int) + 1) = ((i + 1 : Nat) : Int) := by rw [wrap_in (by omega)]; omega
    simp only [nat_Add.l0]
    rw [if_pos (by omega), if_pos (by omega), if_pos (by omega), right_some, rd_nat, hd, w, sum_cons]
    simp only [Option.bind_some]
    generalize l.getD i 0 = x at *
    generalize hS : sum (l.drop (i + 1)) = S at *
    unfold Ok at hs hx
    have w2 : wrap64 (s + x) = s + x := wrap_in (by omega)
    rw [w2]
    by_cases h : Ok (s + x)
    · rw [if_pos (decide_eq_true h), ih k (i + 1) (s + x) (by omega) h (by omega), hS, show s + x + S = s + (x + S) by omega]
    · rw [if_neg (by rw [decide_eq_false h]; decide), if_neg]
      unfold Ok at h
      omega
theorem add_some (l : List Int) (hl : l.length ≤ 1000000) (k : Nat) (hk : l.length < k) : nat_Add.f k l = some (add l) := by
  unfold nat_Add.f nat_all.f add
  have h := all_some l hl l.length k 0 (by omega) hk
  rw [show (0 : Int) = ((0 : Nat) : Int) from rfl, h]
  simp only [Option.bind_some, List.drop_zero, decide_eq_true_eq]
  by_cases ha : ∀ x ∈ l, Ok x
  · rw [if_pos ha, if_pos ha]
    have h2 := add_loop l hl ha l.length k 0 0 (by omega) (by unfold Ok; omega) hk
    rw [show ((0 : Nat) : Int) = 0 from rfl] at h2 ⊢
    rw [h2, List.drop_zero, Int.zero_add]
  · rw [if_neg ha, if_neg ha]
theorem mul_gt (a b : Int) (hb : 0 < b) : a > 4611686018427387903 / b ↔ ¬ a * b < 4611686018427387904 := by
  rw [gt_iff_lt, Int.ediv_lt_iff_lt_mul hb]
  omega
theorem mul_some (a b : Int) (k : Nat) (hk : 2 ≤ k) : nat_Mul.f k a b = some (mul a b) := by
  obtain ⟨k, rfl⟩ : ∃ m, k = m + 2 := ⟨k - 2, by omega⟩
  unfold nat_Mul.f mul
  rw [right_some, right_some]
  simp only [Option.bind_some, decide_eq_true_eq]
  by_cases ha : Ok a
  · by_cases hb : Ok b
    · rw [if_pos ha, if_pos ⟨ha, hb⟩, decide_eq_true hb]
      simp only [nat_Mul.j0, Bool.not_true, Bool.false_eq_true, if_false]
      unfold Ok at ha hb
      by_cases a0 : a = 0
      · rw [if_pos a0]
        simp only [nat_Mul.j1, if_true]
        rw [a0, Int.zero_mul, if_pos (by omega)]
      · rw [if_neg a0]
        simp only [nat_Mul.j1]
        by_cases b0 : b = 0
        · rw [b0, Int.mul_zero]
          rfl
        · rw [if_neg (by simpa using b0), if_neg b0]
          have hq1 : (4611686018427387903 : Int) / b ≤ 4611686018427387903 := Int.ediv_le_self _ (by omega)
          have hq0 : (0 : Int) ≤ 4611686018427387903 / b := Int.ediv_nonneg (by omega) (by omega)
          rw [Int.tdiv_eq_ediv_of_nonneg (by omega)]
          have hw : wrap64 ((4611686018427387903 : Int) / b) = (4611686018427387903 : Int) / b := wrap_in (by omega)
          have hm : 0 ≤ a * b := Int.mul_nonneg ha.1 hb.1
          rw [hw]
          by_cases h : a > (4611686018427387903 : Int) / b
          · rw [if_pos h, if_neg ((mul_gt a b (by omega)).1 h)]
          · have h2 : a * b < 4611686018427387904 := Decidable.byContradiction fun h3 => h ((mul_gt a b (by omega)).2 h3)
            rw [if_neg h, if_pos h2, wrap_in (by omega)]
    · rw [if_pos ha, if_neg (fun h => hb h.2), decide_eq_false hb]
      simp only [nat_Mul.j0, Bool.not_false, if_true]
  · rw [if_neg ha, if_neg (fun h => ha h.1)]
    simp only [nat_Mul.j0, if_true]
theorem ceil_some (a b : Int) (k : Nat) (hk : 1 ≤ k) : nat_Ceil.f k a b = some (ceil a b) := by
  obtain ⟨k, rfl⟩ : ∃ m, k = m + 1 := ⟨k - 1, by omega⟩
  unfold nat_Ceil.f ceil
  rw [right_some, right_some]
  simp only [Option.bind_some, decide_eq_true_eq]
  by_cases ha : Ok a
  · rw [if_pos ha]
    by_cases hb : Ok b
    · rw [if_pos hb]
      simp only [nat_Ceil.j0, beq_iff_eq]
      by_cases b0 : b = 0
      · rw [if_pos b0, if_neg (fun h => h.2.2 b0)]
      · have hc : Ok a ∧ Ok b ∧ b ≠ 0 := ⟨ha, hb, b0⟩
        rw [if_neg b0, if_pos hc]
        unfold Ok at ha hb
        by_cases a0 : a = 0
        · rw [if_pos a0, a0, Int.zero_add, Int.ediv_eq_zero_of_lt (by omega) (by omega)]
        · rw [if_neg a0, if_neg b0, wrap_in (x := a - 1) (by omega), Int.tdiv_eq_ediv_of_nonneg (by omega)]
          have h1 : (a - 1) / b ≤ a - 1 := Int.ediv_le_self _ (by omega)
          have h0 : 0 ≤ (a - 1) / b := Int.ediv_nonneg (by omega) (by omega)
          rw [wrap_in (x := (a - 1) / b) (by omega), wrap_in (by omega)]
          have e : (a + b - 1) / b = (a - 1) / b + 1 := by
            rw [show a + b - 1 = a - 1 + b by omega]
            exact Int.add_ediv_of_dvd_right (Int.dvd_refl b) |>.trans (by rw [Int.ediv_self b0])
          rw [e]
    · rw [if_neg hb, if_neg (fun h => hb h.2.1)]
      simp only [nat_Ceil.j0, if_true]
  · rw [if_neg ha, if_neg (fun h => ha h.1)]
    simp only [nat_Ceil.j0, if_true]
end Go.Proofs.Ytpjobjgfigplhaa.Pure
