/- The walk of num.Name: for every operation the call returns its name, empty of none, and turns nothing that was there. -/
import Derived.Test.YtbbfcfpbdgibaaaNumTwo
namespace Go.Proofs.Ytbbfcfpbdgibaaa.Num
open Go.RowKit
def nameArr : Array Value := #[.string (⟨#[]⟩ : ByteArray), .string (⟨#[65, 68, 68]⟩ : ByteArray), .string (⟨#[83, 85, 66]⟩ : ByteArray), .string (⟨#[77, 85, 76]⟩ : ByteArray), .string (⟨#[68, 73, 86]⟩ : ByteArray), .string (⟨#[77, 79, 68]⟩ : ByteArray), .string (⟨#[65, 78, 68]⟩ : ByteArray), .string (⟨#[79, 82]⟩ : ByteArray), .string (⟨#[88, 79, 82]⟩ : ByteArray), .string (⟨#[83, 72, 76]⟩ : ByteArray), .string (⟨#[83, 72, 82]⟩ : ByteArray), .string (⟨#[76, 84]⟩ : ByteArray), .string (⟨#[69, 81]⟩ : ByteArray)]
def nameOf (op : Int) : ByteArray :=
  if op = 1 then (⟨#[65, 68, 68]⟩ : ByteArray) else
  if op = 2 then (⟨#[83, 85, 66]⟩ : ByteArray) else
  if op = 3 then (⟨#[77, 85, 76]⟩ : ByteArray) else
  if op = 4 then (⟨#[68, 73, 86]⟩ : ByteArray) else
  if op = 5 then (⟨#[77, 79, 68]⟩ : ByteArray) else
  if op = 6 then (⟨#[65, 78, 68]⟩ : ByteArray) else
  if op = 7 then (⟨#[79, 82]⟩ : ByteArray) else
  if op = 8 then (⟨#[88, 79, 82]⟩ : ByteArray) else
  if op = 9 then (⟨#[83, 72, 76]⟩ : ByteArray) else
  if op = 10 then (⟨#[83, 72, 82]⟩ : ByteArray) else
  if op = 11 then (⟨#[76, 84]⟩ : ByteArray) else
  if op = 12 then (⟨#[69, 81]⟩ : ByteArray) else
  ⟨#[]⟩
set_option maxHeartbeats 400000 in
theorem names_walk (w : World) : Calls Try.prog 24 #[] w fun e w' => e = .returned (.agg nameArr) ∧ Below w.heap.size w w' := by
  go_enter Try.func24, Try.ntmps24
  go_wp2
  refine bodyPost_ret (v := .agg nameArr) (results_cell_row (p := 0) (ty := 40) rfl _ _ w.heap.size 40 nameArr (0, 0) _ rfl (heap_alloc_new _ _) Try.underlying40 rfl (by kernel_rfl)) rfl ⟨rfl, ?_⟩
  exact (Below.refl w.heap.size w).alloc (Nat.le_refl _) _
set_option maxHeartbeats 400000 in
theorem name_1 (w : World) : Calls Try.prog 17 #[.int .i64 1] w fun e w' => e = .returned (.string (⟨#[65, 68, 68]⟩ : ByteArray)) ∧ Below w.heap.size w w' := by
  have hi : ∀ w, (Instr.index 40 (.agg nameArr) (.int .i64 1)).run Try.prog w = .ok (.string (⟨#[65, 68, 68]⟩ : ByteArray)) w := fun _ => by kernel_rfl
  go_enter Try.func17, Try.ntmps17
  go_wp2_with (go_at_call 24; refine (names_walk _).mono ?_; rintro e w1 ⟨rfl, hB⟩)
  go_ret
  exact ⟨rfl, hB⟩
set_option maxHeartbeats 400000 in
theorem name_2 (w : World) : Calls Try.prog 17 #[.int .i64 2] w fun e w' => e = .returned (.string (⟨#[83, 85, 66]⟩ : ByteArray)) ∧ Below w.heap.size w w' := by
  have hi : ∀ w, (Instr.index 40 (.agg nameArr) (.int .i64 2)).run Try.prog w = .ok (.string (⟨#[83, 85, 66]⟩ : ByteArray)) w := fun _ => by kernel_rfl
  go_enter Try.func17, Try.ntmps17
  go_wp2_with (go_at_call 24; refine (names_walk _).mono ?_; rintro e w1 ⟨rfl, hB⟩)
  go_ret
  exact ⟨rfl, hB⟩
set_option maxHeartbeats 400000 in
theorem name_3 (w : World) : Calls Try.prog 17 #[.int .i64 3] w fun e w' => e = .returned (.string (⟨#[77, 85, 76]⟩ : ByteArray)) ∧ Below w.heap.size w w' := by
  have hi : ∀ w, (Instr.index 40 (.agg nameArr) (.int .i64 3)).run Try.prog w = .ok (.string (⟨#[77, 85, 76]⟩ : ByteArray)) w := fun _ => by kernel_rfl
  go_enter Try.func17, Try.ntmps17
  go_wp2_with (go_at_call 24; refine (names_walk _).mono ?_; rintro e w1 ⟨rfl, hB⟩)
  go_ret
  exact ⟨rfl, hB⟩
set_option maxHeartbeats 400000 in
theorem name_4 (w : World) : Calls Try.prog 17 #[.int .i64 4] w fun e w' => e = .returned (.string (⟨#[68, 73, 86]⟩ : ByteArray)) ∧ Below w.heap.size w w' := by
  have hi : ∀ w, (Instr.index 40 (.agg nameArr) (.int .i64 4)).run Try.prog w = .ok (.string (⟨#[68, 73, 86]⟩ : ByteArray)) w := fun _ => by kernel_rfl
  go_enter Try.func17, Try.ntmps17
  go_wp2_with (go_at_call 24; refine (names_walk _).mono ?_; rintro e w1 ⟨rfl, hB⟩)
  go_ret
  exact ⟨rfl, hB⟩
set_option maxHeartbeats 400000 in
theorem name_5 (w : World) : Calls Try.prog 17 #[.int .i64 5] w fun e w' => e = .returned (.string (⟨#[77, 79, 68]⟩ : ByteArray)) ∧ Below w.heap.size w w' := by
  have hi : ∀ w, (Instr.index 40 (.agg nameArr) (.int .i64 5)).run Try.prog w = .ok (.string (⟨#[77, 79, 68]⟩ : ByteArray)) w := fun _ => by kernel_rfl
  go_enter Try.func17, Try.ntmps17
  go_wp2_with (go_at_call 24; refine (names_walk _).mono ?_; rintro e w1 ⟨rfl, hB⟩)
  go_ret
  exact ⟨rfl, hB⟩
set_option maxHeartbeats 400000 in
theorem name_6 (w : World) : Calls Try.prog 17 #[.int .i64 6] w fun e w' => e = .returned (.string (⟨#[65, 78, 68]⟩ : ByteArray)) ∧ Below w.heap.size w w' := by
  have hi : ∀ w, (Instr.index 40 (.agg nameArr) (.int .i64 6)).run Try.prog w = .ok (.string (⟨#[65, 78, 68]⟩ : ByteArray)) w := fun _ => by kernel_rfl
  go_enter Try.func17, Try.ntmps17
  go_wp2_with (go_at_call 24; refine (names_walk _).mono ?_; rintro e w1 ⟨rfl, hB⟩)
  go_ret
  exact ⟨rfl, hB⟩
set_option maxHeartbeats 400000 in
theorem name_7 (w : World) : Calls Try.prog 17 #[.int .i64 7] w fun e w' => e = .returned (.string (⟨#[79, 82]⟩ : ByteArray)) ∧ Below w.heap.size w w' := by
  have hi : ∀ w, (Instr.index 40 (.agg nameArr) (.int .i64 7)).run Try.prog w = .ok (.string (⟨#[79, 82]⟩ : ByteArray)) w := fun _ => by kernel_rfl
  go_enter Try.func17, Try.ntmps17
  go_wp2_with (go_at_call 24; refine (names_walk _).mono ?_; rintro e w1 ⟨rfl, hB⟩)
  go_ret
  exact ⟨rfl, hB⟩
set_option maxHeartbeats 400000 in
theorem name_8 (w : World) : Calls Try.prog 17 #[.int .i64 8] w fun e w' => e = .returned (.string (⟨#[88, 79, 82]⟩ : ByteArray)) ∧ Below w.heap.size w w' := by
  have hi : ∀ w, (Instr.index 40 (.agg nameArr) (.int .i64 8)).run Try.prog w = .ok (.string (⟨#[88, 79, 82]⟩ : ByteArray)) w := fun _ => by kernel_rfl
  go_enter Try.func17, Try.ntmps17
  go_wp2_with (go_at_call 24; refine (names_walk _).mono ?_; rintro e w1 ⟨rfl, hB⟩)
  go_ret
  exact ⟨rfl, hB⟩
set_option maxHeartbeats 400000 in
theorem name_9 (w : World) : Calls Try.prog 17 #[.int .i64 9] w fun e w' => e = .returned (.string (⟨#[83, 72, 76]⟩ : ByteArray)) ∧ Below w.heap.size w w' := by
  have hi : ∀ w, (Instr.index 40 (.agg nameArr) (.int .i64 9)).run Try.prog w = .ok (.string (⟨#[83, 72, 76]⟩ : ByteArray)) w := fun _ => by kernel_rfl
  go_enter Try.func17, Try.ntmps17
  go_wp2_with (go_at_call 24; refine (names_walk _).mono ?_; rintro e w1 ⟨rfl, hB⟩)
  go_ret
  exact ⟨rfl, hB⟩
set_option maxHeartbeats 400000 in
theorem name_10 (w : World) : Calls Try.prog 17 #[.int .i64 10] w fun e w' => e = .returned (.string (⟨#[83, 72, 82]⟩ : ByteArray)) ∧ Below w.heap.size w w' := by
  have hi : ∀ w, (Instr.index 40 (.agg nameArr) (.int .i64 10)).run Try.prog w = .ok (.string (⟨#[83, 72, 82]⟩ : ByteArray)) w := fun _ => by kernel_rfl
  go_enter Try.func17, Try.ntmps17
  go_wp2_with (go_at_call 24; refine (names_walk _).mono ?_; rintro e w1 ⟨rfl, hB⟩)
  go_ret
  exact ⟨rfl, hB⟩
set_option maxHeartbeats 400000 in
theorem name_11 (w : World) : Calls Try.prog 17 #[.int .i64 11] w fun e w' => e = .returned (.string (⟨#[76, 84]⟩ : ByteArray)) ∧ Below w.heap.size w w' := by
  have hi : ∀ w, (Instr.index 40 (.agg nameArr) (.int .i64 11)).run Try.prog w = .ok (.string (⟨#[76, 84]⟩ : ByteArray)) w := fun _ => by kernel_rfl
  go_enter Try.func17, Try.ntmps17
  go_wp2_with (go_at_call 24; refine (names_walk _).mono ?_; rintro e w1 ⟨rfl, hB⟩)
  go_ret
  exact ⟨rfl, hB⟩
set_option maxHeartbeats 400000 in
theorem name_12 (w : World) : Calls Try.prog 17 #[.int .i64 12] w fun e w' => e = .returned (.string (⟨#[69, 81]⟩ : ByteArray)) ∧ Below w.heap.size w w' := by
  have hi : ∀ w, (Instr.index 40 (.agg nameArr) (.int .i64 12)).run Try.prog w = .ok (.string (⟨#[69, 81]⟩ : ByteArray)) w := fun _ => by kernel_rfl
  go_enter Try.func17, Try.ntmps17
  go_wp2_with (go_at_call 24; refine (names_walk _).mono ?_; rintro e w1 ⟨rfl, hB⟩)
  go_ret
  exact ⟨rfl, hB⟩
set_option maxHeartbeats 400000 in
theorem name_lo (op : Int) (h : op < 1) (w : World) : Calls Try.prog 17 #[.int .i64 op] w fun e w' => e = .returned (.string ⟨#[]⟩) ∧ Below w.heap.size w w' := by
  go_enter Try.func17, Try.ntmps17
  go_wp2
  go_ret
  exact ⟨rfl, Below.refl _ _⟩
set_option maxHeartbeats 400000 in
theorem name_hi (op : Int) (h1 : ¬ op < 1) (h : 12 < op) (w : World) : Calls Try.prog 17 #[.int .i64 op] w fun e w' => e = .returned (.string ⟨#[]⟩) ∧ Below w.heap.size w w' := by
  go_enter Try.func17, Try.ntmps17
  go_wp2
  go_ret
  exact ⟨rfl, Below.refl _ _⟩
theorem name_walk (op : Int) (w : World) : Calls Try.prog 17 #[.int .i64 op] w fun e w' => e = .returned (.string (nameOf op)) ∧ Below w.heap.size w w' := by
  by_cases h1 : op = 1
  · subst h1; exact name_1 w
  by_cases h2 : op = 2
  · subst h2; exact name_2 w
  by_cases h3 : op = 3
  · subst h3; exact name_3 w
  by_cases h4 : op = 4
  · subst h4; exact name_4 w
  by_cases h5 : op = 5
  · subst h5; exact name_5 w
  by_cases h6 : op = 6
  · subst h6; exact name_6 w
  by_cases h7 : op = 7
  · subst h7; exact name_7 w
  by_cases h8 : op = 8
  · subst h8; exact name_8 w
  by_cases h9 : op = 9
  · subst h9; exact name_9 w
  by_cases h10 : op = 10
  · subst h10; exact name_10 w
  by_cases h11 : op = 11
  · subst h11; exact name_11 w
  by_cases h12 : op = 12
  · subst h12; exact name_12 w
  unfold nameOf
  rw [if_neg h1, if_neg h2, if_neg h3, if_neg h4, if_neg h5, if_neg h6, if_neg h7, if_neg h8, if_neg h9, if_neg h10, if_neg h11, if_neg h12]
  by_cases h : op < 1
  · exact name_lo op h w
  · exact name_hi op h (by omega) w
end Go.Proofs.Ytbbfcfpbdgibaaa.Num
