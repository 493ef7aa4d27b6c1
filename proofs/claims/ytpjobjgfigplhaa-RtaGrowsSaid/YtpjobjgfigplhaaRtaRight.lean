/- The walk of Row.right: for every row the call returns whether the row can be, and turns nothing that was there. -/
import Derived.Test.YtpjobjgfigplhaaProg
import Derived.WalkKit
import Derived.RowKit
import Derived.Below
import Derived.Lib.Hide
import Derived.KernelRfl
import Derived.LoopN
set_option linter.unusedSimpArgs false
namespace Go.Proofs.Ytpjobjgfigplhaa.Right
open Go.RowKit
/-- can a number be -/
def okB (n : Int) : Bool := decide (0 ≤ n ∧ n < 4611686018427387904)
/-- can a row be -/
def rightB (c b t d j p : Int) : Bool := okB (wrap64 (c - 1)) && okB (wrap64 (t - 1)) && okB c && okB t && okB b && okB j && decide (1 ≤ d) && decide (d ≤ 1048576) && decide (1 ≤ p) && decide (p ≤ 100)
theorem ok_yes (n : Int) (h : Hid (okB n = true)) (w : World) : Calls Try.prog 22 #[.int .i64 n] w fun e w' => e = .returned (.bool true) ∧ w = w' := by
  have h2 : 0 ≤ n ∧ n < 4611686018427387904 := by simpa [okB] using h.out
  obtain ⟨h0, h1⟩ := h2
  go_enter Try.func22, Try.ntmps22
  go_wp2
  go_ret
  exact ⟨rfl, rfl⟩
theorem ok_no (n : Int) (h : Hid (okB n = false)) (w : World) : Calls Try.prog 22 #[.int .i64 n] w fun e w' => e = .returned (.bool false) ∧ w = w' := by
  have h2 : 0 ≤ n → 4611686018427387904 ≤ n := by simpa [okB] using h.out
  by_cases h0 : 0 ≤ n
  · have h1 := h2 h0
    have hd : decide (n < 4611686018427387904) = false := decide_eq_false (by omega)
    go_enter Try.func22, Try.ntmps22
    go_wp2
    go_ret
    exact ⟨rfl, rfl⟩
  · clear h2
    go_enter Try.func22, Try.ntmps22
    go_wp2
    go_ret
    exact ⟨rfl, rfl⟩
theorem at_0 (c b t j : Int) (w : World) : (Instr.index 54 (.agg #[.int .i64 (wrap64 (c - 1)), .int .i64 (wrap64 (t - 1)), .int .i64 c, .int .i64 t, .int .i64 b, .int .i64 j]) (.int .i64 0)).run Try.prog w = .ok (.int .i64 (wrap64 (c - 1))) w := by kernel_rfl
theorem at_1 (c b t j : Int) (w : World) : (Instr.index 54 (.agg #[.int .i64 (wrap64 (c - 1)), .int .i64 (wrap64 (t - 1)), .int .i64 c, .int .i64 t, .int .i64 b, .int .i64 j]) (.int .i64 1)).run Try.prog w = .ok (.int .i64 (wrap64 (t - 1))) w := by kernel_rfl
theorem at_2 (c b t j : Int) (w : World) : (Instr.index 54 (.agg #[.int .i64 (wrap64 (c - 1)), .int .i64 (wrap64 (t - 1)), .int .i64 c, .int .i64 t, .int .i64 b, .int .i64 j]) (.int .i64 2)).run Try.prog w = .ok (.int .i64 c) w := by kernel_rfl
theorem at_3 (c b t j : Int) (w : World) : (Instr.index 54 (.agg #[.int .i64 (wrap64 (c - 1)), .int .i64 (wrap64 (t - 1)), .int .i64 c, .int .i64 t, .int .i64 b, .int .i64 j]) (.int .i64 3)).run Try.prog w = .ok (.int .i64 t) w := by kernel_rfl
theorem at_4 (c b t j : Int) (w : World) : (Instr.index 54 (.agg #[.int .i64 (wrap64 (c - 1)), .int .i64 (wrap64 (t - 1)), .int .i64 c, .int .i64 t, .int .i64 b, .int .i64 j]) (.int .i64 4)).run Try.prog w = .ok (.int .i64 b) w := by kernel_rfl
theorem at_5 (c b t j : Int) (w : World) : (Instr.index 54 (.agg #[.int .i64 (wrap64 (c - 1)), .int .i64 (wrap64 (t - 1)), .int .i64 c, .int .i64 t, .int .i64 b, .int .i64 j]) (.int .i64 5)).run Try.prog w = .ok (.int .i64 j) w := by kernel_rfl
set_option maxHeartbeats 1000000 in
theorem right_no0 (c b t d j p : Int) (H0 : Hid (okB (wrap64 (c - 1)) = false)) (w : World) : Calls Try.prog 28 #[.agg #[.int .i64 c, .int .i64 b, .int .i64 t, .int .i64 d, .int .i64 j, .int .i64 p]] w fun e w' => e = .returned (.bool false) ∧ Below w.heap.size w w' := by
  have i0 := at_0 c b t j
  go_enter Try.func28, Try.ntmps28
  go_wp2
  refine wp_loop_rounds 1 ?_
  rw [rounds_succ]; go_wp2_with (go_at_call 22; (with_reducible refine (ok_no (wrap64 (c - 1)) H0 _).mono ?_); rintro e w1 ⟨rfl, rfl⟩)
  go_ret
  exact ⟨rfl, (Below.refl w.heap.size w).alloc (Nat.le_refl _) _⟩
set_option maxHeartbeats 1000000 in
theorem right_no1 (c b t d j p : Int) (H0 : Hid (okB (wrap64 (c - 1)) = true)) (H1 : Hid (okB (wrap64 (t - 1)) = false)) (w : World) : Calls Try.prog 28 #[.agg #[.int .i64 c, .int .i64 b, .int .i64 t, .int .i64 d, .int .i64 j, .int .i64 p]] w fun e w' => e = .returned (.bool false) ∧ Below w.heap.size w w' := by
  have i0 := at_0 c b t j
  have i1 := at_1 c b t j
  go_enter Try.func28, Try.ntmps28
  go_wp2
  refine wp_loop_rounds 2 ?_
  rw [rounds_succ]; go_wp2_with (go_at_call 22; (with_reducible refine (ok_yes (wrap64 (c - 1)) H0 _).mono ?_); rintro e w1 ⟨rfl, rfl⟩)
  rw [rounds_succ]; go_wp2_with (go_at_call 22; (with_reducible refine (ok_no (wrap64 (t - 1)) H1 _).mono ?_); rintro e w1 ⟨rfl, rfl⟩)
  go_ret
  exact ⟨rfl, (Below.refl w.heap.size w).alloc (Nat.le_refl _) _⟩
set_option maxHeartbeats 1000000 in
theorem right_no2 (c b t d j p : Int) (H0 : Hid (okB (wrap64 (c - 1)) = true)) (H1 : Hid (okB (wrap64 (t - 1)) = true)) (H2 : Hid (okB c = false)) (w : World) : Calls Try.prog 28 #[.agg #[.int .i64 c, .int .i64 b, .int .i64 t, .int .i64 d, .int .i64 j, .int .i64 p]] w fun e w' => e = .returned (.bool false) ∧ Below w.heap.size w w' := by
  have i0 := at_0 c b t j
  have i1 := at_1 c b t j
  have i2 := at_2 c b t j
  go_enter Try.func28, Try.ntmps28
  go_wp2
  refine wp_loop_rounds 3 ?_
  rw [rounds_succ]; go_wp2_with (go_at_call 22; (with_reducible refine (ok_yes (wrap64 (c - 1)) H0 _).mono ?_); rintro e w1 ⟨rfl, rfl⟩)
  rw [rounds_succ]; go_wp2_with (go_at_call 22; (with_reducible refine (ok_yes (wrap64 (t - 1)) H1 _).mono ?_); rintro e w1 ⟨rfl, rfl⟩)
  rw [rounds_succ]; go_wp2_with (go_at_call 22; (with_reducible refine (ok_no c H2 _).mono ?_); rintro e w1 ⟨rfl, rfl⟩)
  go_ret
  exact ⟨rfl, (Below.refl w.heap.size w).alloc (Nat.le_refl _) _⟩
set_option maxHeartbeats 1000000 in
theorem right_no3 (c b t d j p : Int) (H0 : Hid (okB (wrap64 (c - 1)) = true)) (H1 : Hid (okB (wrap64 (t - 1)) = true)) (H2 : Hid (okB c = true)) (H3 : Hid (okB t = false)) (w : World) : Calls Try.prog 28 #[.agg #[.int .i64 c, .int .i64 b, .int .i64 t, .int .i64 d, .int .i64 j, .int .i64 p]] w fun e w' => e = .returned (.bool false) ∧ Below w.heap.size w w' := by
  have i0 := at_0 c b t j
  have i1 := at_1 c b t j
  have i2 := at_2 c b t j
  have i3 := at_3 c b t j
  go_enter Try.func28, Try.ntmps28
  go_wp2
  refine wp_loop_rounds 4 ?_
  rw [rounds_succ]; go_wp2_with (go_at_call 22; (with_reducible refine (ok_yes (wrap64 (c - 1)) H0 _).mono ?_); rintro e w1 ⟨rfl, rfl⟩)
  rw [rounds_succ]; go_wp2_with (go_at_call 22; (with_reducible refine (ok_yes (wrap64 (t - 1)) H1 _).mono ?_); rintro e w1 ⟨rfl, rfl⟩)
  rw [rounds_succ]; go_wp2_with (go_at_call 22; (with_reducible refine (ok_yes c H2 _).mono ?_); rintro e w1 ⟨rfl, rfl⟩)
  rw [rounds_succ]; go_wp2_with (go_at_call 22; (with_reducible refine (ok_no t H3 _).mono ?_); rintro e w1 ⟨rfl, rfl⟩)
  go_ret
  exact ⟨rfl, (Below.refl w.heap.size w).alloc (Nat.le_refl _) _⟩
set_option maxHeartbeats 1000000 in
theorem right_no4 (c b t d j p : Int) (H0 : Hid (okB (wrap64 (c - 1)) = true)) (H1 : Hid (okB (wrap64 (t - 1)) = true)) (H2 : Hid (okB c = true)) (H3 : Hid (okB t = true)) (H4 : Hid (okB b = false)) (w : World) : Calls Try.prog 28 #[.agg #[.int .i64 c, .int .i64 b, .int .i64 t, .int .i64 d, .int .i64 j, .int .i64 p]] w fun e w' => e = .returned (.bool false) ∧ Below w.heap.size w w' := by
  have i0 := at_0 c b t j
  have i1 := at_1 c b t j
  have i2 := at_2 c b t j
  have i3 := at_3 c b t j
  have i4 := at_4 c b t j
  go_enter Try.func28, Try.ntmps28
  go_wp2
  refine wp_loop_rounds 5 ?_
  rw [rounds_succ]; go_wp2_with (go_at_call 22; (with_reducible refine (ok_yes (wrap64 (c - 1)) H0 _).mono ?_); rintro e w1 ⟨rfl, rfl⟩)
  rw [rounds_succ]; go_wp2_with (go_at_call 22; (with_reducible refine (ok_yes (wrap64 (t - 1)) H1 _).mono ?_); rintro e w1 ⟨rfl, rfl⟩)
  rw [rounds_succ]; go_wp2_with (go_at_call 22; (with_reducible refine (ok_yes c H2 _).mono ?_); rintro e w1 ⟨rfl, rfl⟩)
  rw [rounds_succ]; go_wp2_with (go_at_call 22; (with_reducible refine (ok_yes t H3 _).mono ?_); rintro e w1 ⟨rfl, rfl⟩)
  rw [rounds_succ]; go_wp2_with (go_at_call 22; (with_reducible refine (ok_no b H4 _).mono ?_); rintro e w1 ⟨rfl, rfl⟩)
  go_ret
  exact ⟨rfl, (Below.refl w.heap.size w).alloc (Nat.le_refl _) _⟩
set_option maxHeartbeats 1000000 in
theorem right_no5 (c b t d j p : Int) (H0 : Hid (okB (wrap64 (c - 1)) = true)) (H1 : Hid (okB (wrap64 (t - 1)) = true)) (H2 : Hid (okB c = true)) (H3 : Hid (okB t = true)) (H4 : Hid (okB b = true)) (H5 : Hid (okB j = false)) (w : World) : Calls Try.prog 28 #[.agg #[.int .i64 c, .int .i64 b, .int .i64 t, .int .i64 d, .int .i64 j, .int .i64 p]] w fun e w' => e = .returned (.bool false) ∧ Below w.heap.size w w' := by
  have i0 := at_0 c b t j
  have i1 := at_1 c b t j
  have i2 := at_2 c b t j
  have i3 := at_3 c b t j
  have i4 := at_4 c b t j
  have i5 := at_5 c b t j
  go_enter Try.func28, Try.ntmps28
  go_wp2
  refine wp_loop_rounds 6 ?_
  rw [rounds_succ]; go_wp2_with (go_at_call 22; (with_reducible refine (ok_yes (wrap64 (c - 1)) H0 _).mono ?_); rintro e w1 ⟨rfl, rfl⟩)
  rw [rounds_succ]; go_wp2_with (go_at_call 22; (with_reducible refine (ok_yes (wrap64 (t - 1)) H1 _).mono ?_); rintro e w1 ⟨rfl, rfl⟩)
  rw [rounds_succ]; go_wp2_with (go_at_call 22; (with_reducible refine (ok_yes c H2 _).mono ?_); rintro e w1 ⟨rfl, rfl⟩)
  rw [rounds_succ]; go_wp2_with (go_at_call 22; (with_reducible refine (ok_yes t H3 _).mono ?_); rintro e w1 ⟨rfl, rfl⟩)
  rw [rounds_succ]; go_wp2_with (go_at_call 22; (with_reducible refine (ok_yes b H4 _).mono ?_); rintro e w1 ⟨rfl, rfl⟩)
  rw [rounds_succ]; go_wp2_with (go_at_call 22; (with_reducible refine (ok_no j H5 _).mono ?_); rintro e w1 ⟨rfl, rfl⟩)
  go_ret
  exact ⟨rfl, (Below.refl w.heap.size w).alloc (Nat.le_refl _) _⟩
set_option maxHeartbeats 1000000 in
theorem right_d0 (c b t d j p : Int) (H0 : Hid (okB (wrap64 (c - 1)) = true)) (H1 : Hid (okB (wrap64 (t - 1)) = true)) (H2 : Hid (okB c = true)) (H3 : Hid (okB t = true)) (H4 : Hid (okB b = true)) (H5 : Hid (okB j = true)) (hd : ¬ 1 ≤ d) (w : World) : Calls Try.prog 28 #[.agg #[.int .i64 c, .int .i64 b, .int .i64 t, .int .i64 d, .int .i64 j, .int .i64 p]] w fun e w' => e = .returned (.bool false) ∧ Below w.heap.size w w' := by
  have i0 := at_0 c b t j
  have i1 := at_1 c b t j
  have i2 := at_2 c b t j
  have i3 := at_3 c b t j
  have i4 := at_4 c b t j
  have i5 := at_5 c b t j
  go_enter Try.func28, Try.ntmps28
  go_wp2
  refine wp_loop_rounds 7 ?_
  rw [rounds_succ]; go_wp2_with (go_at_call 22; (with_reducible refine (ok_yes (wrap64 (c - 1)) H0 _).mono ?_); rintro e w1 ⟨rfl, rfl⟩)
  rw [rounds_succ]; go_wp2_with (go_at_call 22; (with_reducible refine (ok_yes (wrap64 (t - 1)) H1 _).mono ?_); rintro e w1 ⟨rfl, rfl⟩)
  rw [rounds_succ]; go_wp2_with (go_at_call 22; (with_reducible refine (ok_yes c H2 _).mono ?_); rintro e w1 ⟨rfl, rfl⟩)
  rw [rounds_succ]; go_wp2_with (go_at_call 22; (with_reducible refine (ok_yes t H3 _).mono ?_); rintro e w1 ⟨rfl, rfl⟩)
  rw [rounds_succ]; go_wp2_with (go_at_call 22; (with_reducible refine (ok_yes b H4 _).mono ?_); rintro e w1 ⟨rfl, rfl⟩)
  rw [rounds_succ]; go_wp2_with (go_at_call 22; (with_reducible refine (ok_yes j H5 _).mono ?_); rintro e w1 ⟨rfl, rfl⟩)
  rw [rounds_succ]; go_wp2
  go_ret
  exact ⟨rfl, (Below.refl w.heap.size w).alloc (Nat.le_refl _) _⟩
set_option maxHeartbeats 1000000 in
theorem right_d1 (c b t d j p : Int) (H0 : Hid (okB (wrap64 (c - 1)) = true)) (H1 : Hid (okB (wrap64 (t - 1)) = true)) (H2 : Hid (okB c = true)) (H3 : Hid (okB t = true)) (H4 : Hid (okB b = true)) (H5 : Hid (okB j = true)) (hd : 1 ≤ d) (hd2 : ¬ d ≤ 1048576) (w : World) : Calls Try.prog 28 #[.agg #[.int .i64 c, .int .i64 b, .int .i64 t, .int .i64 d, .int .i64 j, .int .i64 p]] w fun e w' => e = .returned (.bool false) ∧ Below w.heap.size w w' := by
  have i0 := at_0 c b t j
  have i1 := at_1 c b t j
  have i2 := at_2 c b t j
  have i3 := at_3 c b t j
  have i4 := at_4 c b t j
  have i5 := at_5 c b t j
  go_enter Try.func28, Try.ntmps28
  go_wp2
  refine wp_loop_rounds 7 ?_
  rw [rounds_succ]; go_wp2_with (go_at_call 22; (with_reducible refine (ok_yes (wrap64 (c - 1)) H0 _).mono ?_); rintro e w1 ⟨rfl, rfl⟩)
  rw [rounds_succ]; go_wp2_with (go_at_call 22; (with_reducible refine (ok_yes (wrap64 (t - 1)) H1 _).mono ?_); rintro e w1 ⟨rfl, rfl⟩)
  rw [rounds_succ]; go_wp2_with (go_at_call 22; (with_reducible refine (ok_yes c H2 _).mono ?_); rintro e w1 ⟨rfl, rfl⟩)
  rw [rounds_succ]; go_wp2_with (go_at_call 22; (with_reducible refine (ok_yes t H3 _).mono ?_); rintro e w1 ⟨rfl, rfl⟩)
  rw [rounds_succ]; go_wp2_with (go_at_call 22; (with_reducible refine (ok_yes b H4 _).mono ?_); rintro e w1 ⟨rfl, rfl⟩)
  rw [rounds_succ]; go_wp2_with (go_at_call 22; (with_reducible refine (ok_yes j H5 _).mono ?_); rintro e w1 ⟨rfl, rfl⟩)
  rw [rounds_succ]; go_wp2
  go_ret
  exact ⟨rfl, (Below.refl w.heap.size w).alloc (Nat.le_refl _) _⟩
set_option maxHeartbeats 1000000 in
theorem right_p0 (c b t d j p : Int) (H0 : Hid (okB (wrap64 (c - 1)) = true)) (H1 : Hid (okB (wrap64 (t - 1)) = true)) (H2 : Hid (okB c = true)) (H3 : Hid (okB t = true)) (H4 : Hid (okB b = true)) (H5 : Hid (okB j = true)) (hd : 1 ≤ d) (hd2 : d ≤ 1048576) (hp : ¬ 1 ≤ p) (w : World) : Calls Try.prog 28 #[.agg #[.int .i64 c, .int .i64 b, .int .i64 t, .int .i64 d, .int .i64 j, .int .i64 p]] w fun e w' => e = .returned (.bool false) ∧ Below w.heap.size w w' := by
  have i0 := at_0 c b t j
  have i1 := at_1 c b t j
  have i2 := at_2 c b t j
  have i3 := at_3 c b t j
  have i4 := at_4 c b t j
  have i5 := at_5 c b t j
  go_enter Try.func28, Try.ntmps28
  go_wp2
  refine wp_loop_rounds 7 ?_
  rw [rounds_succ]; go_wp2_with (go_at_call 22; (with_reducible refine (ok_yes (wrap64 (c - 1)) H0 _).mono ?_); rintro e w1 ⟨rfl, rfl⟩)
  rw [rounds_succ]; go_wp2_with (go_at_call 22; (with_reducible refine (ok_yes (wrap64 (t - 1)) H1 _).mono ?_); rintro e w1 ⟨rfl, rfl⟩)
  rw [rounds_succ]; go_wp2_with (go_at_call 22; (with_reducible refine (ok_yes c H2 _).mono ?_); rintro e w1 ⟨rfl, rfl⟩)
  rw [rounds_succ]; go_wp2_with (go_at_call 22; (with_reducible refine (ok_yes t H3 _).mono ?_); rintro e w1 ⟨rfl, rfl⟩)
  rw [rounds_succ]; go_wp2_with (go_at_call 22; (with_reducible refine (ok_yes b H4 _).mono ?_); rintro e w1 ⟨rfl, rfl⟩)
  rw [rounds_succ]; go_wp2_with (go_at_call 22; (with_reducible refine (ok_yes j H5 _).mono ?_); rintro e w1 ⟨rfl, rfl⟩)
  rw [rounds_succ]; go_wp2
  go_ret
  exact ⟨rfl, (Below.refl w.heap.size w).alloc (Nat.le_refl _) _⟩
set_option maxHeartbeats 1000000 in
theorem right_p1 (c b t d j p : Int) (H0 : Hid (okB (wrap64 (c - 1)) = true)) (H1 : Hid (okB (wrap64 (t - 1)) = true)) (H2 : Hid (okB c = true)) (H3 : Hid (okB t = true)) (H4 : Hid (okB b = true)) (H5 : Hid (okB j = true)) (hd : 1 ≤ d) (hd2 : d ≤ 1048576) (hp : 1 ≤ p) (hp2 : ¬ p ≤ 100) (w : World) : Calls Try.prog 28 #[.agg #[.int .i64 c, .int .i64 b, .int .i64 t, .int .i64 d, .int .i64 j, .int .i64 p]] w fun e w' => e = .returned (.bool false) ∧ Below w.heap.size w w' := by
  have i0 := at_0 c b t j
  have i1 := at_1 c b t j
  have i2 := at_2 c b t j
  have i3 := at_3 c b t j
  have i4 := at_4 c b t j
  have i5 := at_5 c b t j
  have hd9 : decide (p ≤ 100) = false := decide_eq_false hp2
  go_enter Try.func28, Try.ntmps28
  go_wp2
  refine wp_loop_rounds 7 ?_
  rw [rounds_succ]; go_wp2_with (go_at_call 22; (with_reducible refine (ok_yes (wrap64 (c - 1)) H0 _).mono ?_); rintro e w1 ⟨rfl, rfl⟩)
  rw [rounds_succ]; go_wp2_with (go_at_call 22; (with_reducible refine (ok_yes (wrap64 (t - 1)) H1 _).mono ?_); rintro e w1 ⟨rfl, rfl⟩)
  rw [rounds_succ]; go_wp2_with (go_at_call 22; (with_reducible refine (ok_yes c H2 _).mono ?_); rintro e w1 ⟨rfl, rfl⟩)
  rw [rounds_succ]; go_wp2_with (go_at_call 22; (with_reducible refine (ok_yes t H3 _).mono ?_); rintro e w1 ⟨rfl, rfl⟩)
  rw [rounds_succ]; go_wp2_with (go_at_call 22; (with_reducible refine (ok_yes b H4 _).mono ?_); rintro e w1 ⟨rfl, rfl⟩)
  rw [rounds_succ]; go_wp2_with (go_at_call 22; (with_reducible refine (ok_yes j H5 _).mono ?_); rintro e w1 ⟨rfl, rfl⟩)
  rw [rounds_succ]; go_wp2
  go_ret
  exact ⟨rfl, (Below.refl w.heap.size w).alloc (Nat.le_refl _) _⟩
set_option maxHeartbeats 1000000 in
theorem right_yes (c b t d j p : Int) (H0 : Hid (okB (wrap64 (c - 1)) = true)) (H1 : Hid (okB (wrap64 (t - 1)) = true)) (H2 : Hid (okB c = true)) (H3 : Hid (okB t = true)) (H4 : Hid (okB b = true)) (H5 : Hid (okB j = true)) (hd : 1 ≤ d) (hd2 : d ≤ 1048576) (hp : 1 ≤ p) (hp2 : p ≤ 100) (w : World) : Calls Try.prog 28 #[.agg #[.int .i64 c, .int .i64 b, .int .i64 t, .int .i64 d, .int .i64 j, .int .i64 p]] w fun e w' => e = .returned (.bool true) ∧ Below w.heap.size w w' := by
  have i0 := at_0 c b t j
  have i1 := at_1 c b t j
  have i2 := at_2 c b t j
  have i3 := at_3 c b t j
  have i4 := at_4 c b t j
  have i5 := at_5 c b t j
  have hd9 : decide (p ≤ 100) = true := decide_eq_true hp2
  go_enter Try.func28, Try.ntmps28
  go_wp2
  refine wp_loop_rounds 7 ?_
  rw [rounds_succ]; go_wp2_with (go_at_call 22; (with_reducible refine (ok_yes (wrap64 (c - 1)) H0 _).mono ?_); rintro e w1 ⟨rfl, rfl⟩)
  rw [rounds_succ]; go_wp2_with (go_at_call 22; (with_reducible refine (ok_yes (wrap64 (t - 1)) H1 _).mono ?_); rintro e w1 ⟨rfl, rfl⟩)
  rw [rounds_succ]; go_wp2_with (go_at_call 22; (with_reducible refine (ok_yes c H2 _).mono ?_); rintro e w1 ⟨rfl, rfl⟩)
  rw [rounds_succ]; go_wp2_with (go_at_call 22; (with_reducible refine (ok_yes t H3 _).mono ?_); rintro e w1 ⟨rfl, rfl⟩)
  rw [rounds_succ]; go_wp2_with (go_at_call 22; (with_reducible refine (ok_yes b H4 _).mono ?_); rintro e w1 ⟨rfl, rfl⟩)
  rw [rounds_succ]; go_wp2_with (go_at_call 22; (with_reducible refine (ok_yes j H5 _).mono ?_); rintro e w1 ⟨rfl, rfl⟩)
  rw [rounds_succ]; go_wp2
  go_ret
  exact ⟨rfl, (Below.refl w.heap.size w).alloc (Nat.le_refl _) _⟩
theorem right_walk (c b t d j p : Int) (w : World) : Calls Try.prog 28 #[.agg #[.int .i64 c, .int .i64 b, .int .i64 t, .int .i64 d, .int .i64 j, .int .i64 p]] w fun e w' => e = .returned (.bool (rightB c b t d j p)) ∧ Below w.heap.size w w' := by
  unfold rightB
  by_cases H0 : okB (wrap64 (c - 1)) = true
  case neg =>
    have h : okB (wrap64 (c - 1)) = false := by simpa using H0
    simp only [h, Bool.false_and, Bool.and_false, Bool.true_and]; exact right_no0 c b t d j p (Lib.hid h) w
  by_cases H1 : okB (wrap64 (t - 1)) = true
  case neg =>
    have h : okB (wrap64 (t - 1)) = false := by simpa using H1
    simp only [H0, h, Bool.false_and, Bool.and_false, Bool.true_and]; exact right_no1 c b t d j p (Lib.hid H0) (Lib.hid h) w
  by_cases H2 : okB c = true
  case neg =>
    have h : okB c = false := by simpa using H2
    simp only [H0, H1, h, Bool.false_and, Bool.and_false, Bool.true_and]; exact right_no2 c b t d j p (Lib.hid H0) (Lib.hid H1) (Lib.hid h) w
  by_cases H3 : okB t = true
  case neg =>
    have h : okB t = false := by simpa using H3
    simp only [H0, H1, H2, h, Bool.false_and, Bool.and_false, Bool.true_and]; exact right_no3 c b t d j p (Lib.hid H0) (Lib.hid H1) (Lib.hid H2) (Lib.hid h) w
  by_cases H4 : okB b = true
  case neg =>
    have h : okB b = false := by simpa using H4
    simp only [H0, H1, H2, H3, h, Bool.false_and, Bool.and_false, Bool.true_and]; exact right_no4 c b t d j p (Lib.hid H0) (Lib.hid H1) (Lib.hid H2) (Lib.hid H3) (Lib.hid h) w
  by_cases H5 : okB j = true
  case neg =>
    have h : okB j = false := by simpa using H5
    simp only [H0, H1, H2, H3, H4, h, Bool.false_and, Bool.and_false, Bool.true_and]; exact right_no5 c b t d j p (Lib.hid H0) (Lib.hid H1) (Lib.hid H2) (Lib.hid H3) (Lib.hid H4) (Lib.hid h) w
  rw [H0, H1, H2, H3, H4, H5]
  by_cases hd : 1 ≤ d
  case neg => simpa [hd] using right_d0 c b t d j p (Lib.hid H0) (Lib.hid H1) (Lib.hid H2) (Lib.hid H3) (Lib.hid H4) (Lib.hid H5) hd w
  by_cases hd2 : d ≤ 1048576
  case neg => simpa [hd, hd2] using right_d1 c b t d j p (Lib.hid H0) (Lib.hid H1) (Lib.hid H2) (Lib.hid H3) (Lib.hid H4) (Lib.hid H5) hd hd2 w
  by_cases hp : 1 ≤ p
  case neg => simpa [hd, hd2, hp] using right_p0 c b t d j p (Lib.hid H0) (Lib.hid H1) (Lib.hid H2) (Lib.hid H3) (Lib.hid H4) (Lib.hid H5) hd hd2 hp w
  by_cases hp2 : p ≤ 100
  case neg => simpa [hd, hd2, hp, hp2] using right_p1 c b t d j p (Lib.hid H0) (Lib.hid H1) (Lib.hid H2) (Lib.hid H3) (Lib.hid H4) (Lib.hid H5) hd hd2 hp hp2 w
  simpa [hd, hd2, hp, hp2] using right_yes c b t d j p (Lib.hid H0) (Lib.hid H1) (Lib.hid H2) (Lib.hid H3) (Lib.hid H4) (Lib.hid H5) hd hd2 hp hp2 w
end Go.Proofs.Ytpjobjgfigplhaa.Right
