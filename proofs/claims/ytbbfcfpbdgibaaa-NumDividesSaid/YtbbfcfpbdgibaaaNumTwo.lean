/- The walk of num.Two: for every operation and all numbers the call returns what 'two' tells, and turns nothing that was there. -/
import Derived.Test.YtbbfcfpbdgibaaaNumMap
import Derived.Laws.ShiftsVar
import Derived.Laws.ShiftsVarLaws
import Derived.Laws.BitsLemmas
namespace Go.Proofs.Ytbbfcfpbdgibaaa.Num
open Go.RowKit
/-- A truth as a number. -/
def b2i (p : Bool) : Int := if p = true then 1 else 0
/-- What an operation makes of two numbers. -/
def two (op a b : Int) : Int × Bool :=
  if op = 1 then (wrap64 (a + b), false) else
  if op = 2 then (wrap64 (a - b), false) else
  if op = 3 then (wrap64 (a * b), false) else
  if op = 6 then (bits .and .i64 a b, false) else
  if op = 7 then (bits .or .i64 a b, false) else
  if op = 8 then (bits .xor .i64 a b, false) else
  if op = 9 then (wrap64 (a * 2 ^ (b % 64).toNat), false) else
  if op = 10 then (a / 2 ^ (b % 64).toNat, false) else
  if op = 11 then (b2i (decide (a < b)), false) else
  if op = 12 then (b2i (a == b), false) else
  if b = 0 then (0, true) else if op = 4 then (wrap64 (Int.tdiv a b), false) else if op = 5 then (Int.tmod a b, false) else (0, true)
theorem mask63 (b : Int) : bits .and .i64 b 63 = b % 64 := by
  have h : (BitVec.ofInt 64 b).toNat &&& (BitVec.ofInt 64 63).toNat = (b % 64).toNat := by
    rw [BitVec.toNat_ofInt, show (BitVec.ofInt 64 63).toNat = 2 ^ 6 - 1 from rfl, Nat.and_two_pow_sub_one_eq_mod]
    omega
  show IntKind.i64.wrap ((BitVec.ofInt 64 b &&& BitVec.ofInt 64 63).toNat : Int) = _
  rw [BitVec.toNat_and, h, IntKind.wrap_i64]
  omega
theorem bool_walk (p : Bool) (w : World) : Calls Try.prog 16 #[.bool p] w fun e w' => e = .returned (.int .i64 (b2i p)) ∧ w = w' := by
  cases p
  all_goals
    go_enter Try.func16, Try.ntmps16
    go_wp2
    go_ret
    exact ⟨rfl, rfl⟩
theorem ret_int {k : IntKind} {a b : Int} (h : a = b) : Ending.returned (.int k a) = .returned (.int k b) := by rw [h]
theorem f25_walk (a b : Int) (w : World) : Calls Try.prog 25 #[.int .i64 a, .int .i64 b] w fun e w' => e = .returned (.int .i64 (wrap64 (a + b))) ∧ w = w' := by
  go_enter Try.func25, Try.ntmps25
  go_wp2
  go_ret
  exact ⟨rfl, rfl⟩
theorem f26_walk (a b : Int) (w : World) : Calls Try.prog 26 #[.int .i64 a, .int .i64 b] w fun e w' => e = .returned (.int .i64 (wrap64 (a - b))) ∧ w = w' := by
  go_enter Try.func26, Try.ntmps26
  go_wp2
  go_ret
  exact ⟨rfl, rfl⟩
theorem f27_walk (a b : Int) (w : World) : Calls Try.prog 27 #[.int .i64 a, .int .i64 b] w fun e w' => e = .returned (.int .i64 (wrap64 (a * b))) ∧ w = w' := by
  go_enter Try.func27, Try.ntmps27
  go_wp2
  go_ret
  exact ⟨rfl, rfl⟩
theorem f28_walk (a b : Int) (w : World) : Calls Try.prog 28 #[.int .i64 a, .int .i64 b] w fun e w' => e = .returned (.int .i64 (bits .and .i64 a b)) ∧ w = w' := by
  go_enter Try.func28, Try.ntmps28
  go_wp2
  go_ret
  exact ⟨rfl, rfl⟩
theorem f29_walk (a b : Int) (w : World) : Calls Try.prog 29 #[.int .i64 a, .int .i64 b] w fun e w' => e = .returned (.int .i64 (bits .or .i64 a b)) ∧ w = w' := by
  go_enter Try.func29, Try.ntmps29
  go_wp2
  go_ret
  exact ⟨rfl, rfl⟩
theorem f30_walk (a b : Int) (w : World) : Calls Try.prog 30 #[.int .i64 a, .int .i64 b] w fun e w' => e = .returned (.int .i64 (bits .xor .i64 a b)) ∧ w = w' := by
  go_enter Try.func30, Try.ntmps30
  go_wp2
  go_ret
  exact ⟨rfl, rfl⟩
theorem f31_walk (a b : Int) (w : World) : Calls Try.prog 31 #[.int .i64 a, .int .i64 b] w fun e w' => e = .returned (.int .i64 (wrap64 (a * 2 ^ (b % 64).toNat))) ∧ w = w' := by
  obtain ⟨s, hs, Hs⟩ : ∃ s : Nat, s < 64 ∧ Hid (s = (b % 64).toNat) := ⟨_, by omega, Lib.hid rfl⟩
  have hm : bits .and .i64 b 63 = (s : Int) := by rw [mask63, Hs.out]; omega
  rw [← Hs.out]
  go_enter Try.func31, Try.ntmps31
  go_wp2
  go_ret
  exact ⟨rfl, rfl⟩
theorem f32_walk (a b : Int) (w : World) : Calls Try.prog 32 #[.int .i64 a, .int .i64 b] w fun e w' => e = .returned (.int .i64 (a / 2 ^ (b % 64).toNat)) ∧ w = w' := by
  obtain ⟨s, hs, Hs⟩ : ∃ s : Nat, s < 64 ∧ Hid (s = (b % 64).toNat) := ⟨_, by omega, Lib.hid rfl⟩
  have hm : bits .and .i64 b 63 = (s : Int) := by rw [mask63, Hs.out]; omega
  rw [← Hs.out]
  go_enter Try.func32, Try.ntmps32
  go_wp2
  go_ret
  exact ⟨rfl, rfl⟩
theorem f33_walk (a b : Int) (w : World) : Calls Try.prog 33 #[.int .i64 a, .int .i64 b] w fun e w' => e = .returned (.int .i64 (b2i (decide (a < b)))) ∧ w = w' := by
  go_enter Try.func33, Try.ntmps33
  go_wp2_with (go_at_call 16; refine (bool_walk _ _).mono ?_; rintro e w1 ⟨rfl, rfl⟩)
  go_ret
  exact ⟨rfl, rfl⟩
theorem f34_walk (a b : Int) (w : World) : Calls Try.prog 34 #[.int .i64 a, .int .i64 b] w fun e w' => e = .returned (.int .i64 (b2i (a == b))) ∧ w = w' := by
  go_enter Try.func34, Try.ntmps34
  go_wp2_with (go_at_call 16; refine (bool_walk _ _).mono ?_; rintro e w1 ⟨rfl, rfl⟩)
  go_ret
  exact ⟨rfl, rfl⟩
set_option maxHeartbeats 400000 in
theorem two_1 (a b : Int) (w : World) : Calls Try.prog 11 #[.int .i64 1, .int .i64 a, .int .i64 b] w fun e w' => e = .returned (.tuple #[.int .i64 (wrap64 (a + b)), .bool false]) ∧ Below w.heap.size w w' := by
  go_enter Try.func11, Try.ntmps11
  go_wp2_with (first | (go_at_call 20; refine (plain_walk _).mono ?_; rintro e w1 ⟨rfl, hb, hB⟩; have hl := run_lookup_there (key := 1) (v := .func (.func 25) #[] #[]) hb.out rfl) | (go_at_call 25; refine (f25_walk _ _ _).mono ?_; rintro e w2 ⟨rfl, rfl⟩))
  go_ret2
  exact ⟨rfl, hB⟩
set_option maxHeartbeats 400000 in
theorem two_2 (a b : Int) (w : World) : Calls Try.prog 11 #[.int .i64 2, .int .i64 a, .int .i64 b] w fun e w' => e = .returned (.tuple #[.int .i64 (wrap64 (a - b)), .bool false]) ∧ Below w.heap.size w w' := by
  go_enter Try.func11, Try.ntmps11
  go_wp2_with (first | (go_at_call 20; refine (plain_walk _).mono ?_; rintro e w1 ⟨rfl, hb, hB⟩; have hl := run_lookup_there (key := 2) (v := .func (.func 26) #[] #[]) hb.out rfl) | (go_at_call 26; refine (f26_walk _ _ _).mono ?_; rintro e w2 ⟨rfl, rfl⟩))
  go_ret2
  exact ⟨rfl, hB⟩
set_option maxHeartbeats 400000 in
theorem two_3 (a b : Int) (w : World) : Calls Try.prog 11 #[.int .i64 3, .int .i64 a, .int .i64 b] w fun e w' => e = .returned (.tuple #[.int .i64 (wrap64 (a * b)), .bool false]) ∧ Below w.heap.size w w' := by
  go_enter Try.func11, Try.ntmps11
  go_wp2_with (first | (go_at_call 20; refine (plain_walk _).mono ?_; rintro e w1 ⟨rfl, hb, hB⟩; have hl := run_lookup_there (key := 3) (v := .func (.func 27) #[] #[]) hb.out rfl) | (go_at_call 27; refine (f27_walk _ _ _).mono ?_; rintro e w2 ⟨rfl, rfl⟩))
  go_ret2
  exact ⟨rfl, hB⟩
set_option maxHeartbeats 400000 in
theorem two_6 (a b : Int) (w : World) : Calls Try.prog 11 #[.int .i64 6, .int .i64 a, .int .i64 b] w fun e w' => e = .returned (.tuple #[.int .i64 (bits .and .i64 a b), .bool false]) ∧ Below w.heap.size w w' := by
  go_enter Try.func11, Try.ntmps11
  go_wp2_with (first | (go_at_call 20; refine (plain_walk _).mono ?_; rintro e w1 ⟨rfl, hb, hB⟩; have hl := run_lookup_there (key := 6) (v := .func (.func 28) #[] #[]) hb.out rfl) | (go_at_call 28; refine (f28_walk _ _ _).mono ?_; rintro e w2 ⟨rfl, rfl⟩))
  go_ret2
  exact ⟨rfl, hB⟩
set_option maxHeartbeats 400000 in
theorem two_7 (a b : Int) (w : World) : Calls Try.prog 11 #[.int .i64 7, .int .i64 a, .int .i64 b] w fun e w' => e = .returned (.tuple #[.int .i64 (bits .or .i64 a b), .bool false]) ∧ Below w.heap.size w w' := by
  go_enter Try.func11, Try.ntmps11
  go_wp2_with (first | (go_at_call 20; refine (plain_walk _).mono ?_; rintro e w1 ⟨rfl, hb, hB⟩; have hl := run_lookup_there (key := 7) (v := .func (.func 29) #[] #[]) hb.out rfl) | (go_at_call 29; refine (f29_walk _ _ _).mono ?_; rintro e w2 ⟨rfl, rfl⟩))
  go_ret2
  exact ⟨rfl, hB⟩
set_option maxHeartbeats 400000 in
theorem two_8 (a b : Int) (w : World) : Calls Try.prog 11 #[.int .i64 8, .int .i64 a, .int .i64 b] w fun e w' => e = .returned (.tuple #[.int .i64 (bits .xor .i64 a b), .bool false]) ∧ Below w.heap.size w w' := by
  go_enter Try.func11, Try.ntmps11
  go_wp2_with (first | (go_at_call 20; refine (plain_walk _).mono ?_; rintro e w1 ⟨rfl, hb, hB⟩; have hl := run_lookup_there (key := 8) (v := .func (.func 30) #[] #[]) hb.out rfl) | (go_at_call 30; refine (f30_walk _ _ _).mono ?_; rintro e w2 ⟨rfl, rfl⟩))
  go_ret2
  exact ⟨rfl, hB⟩
set_option maxHeartbeats 400000 in
theorem two_9 (a b : Int) (w : World) : Calls Try.prog 11 #[.int .i64 9, .int .i64 a, .int .i64 b] w fun e w' => e = .returned (.tuple #[.int .i64 (wrap64 (a * 2 ^ (b % 64).toNat)), .bool false]) ∧ Below w.heap.size w w' := by
  go_enter Try.func11, Try.ntmps11
  go_wp2_with (first | (go_at_call 20; refine (plain_walk _).mono ?_; rintro e w1 ⟨rfl, hb, hB⟩; have hl := run_lookup_there (key := 9) (v := .func (.func 31) #[] #[]) hb.out rfl) | (go_at_call 31; refine (f31_walk _ _ _).mono ?_; rintro e w2 ⟨rfl, rfl⟩))
  go_ret2
  exact ⟨rfl, hB⟩
set_option maxHeartbeats 400000 in
theorem two_10 (a b : Int) (w : World) : Calls Try.prog 11 #[.int .i64 10, .int .i64 a, .int .i64 b] w fun e w' => e = .returned (.tuple #[.int .i64 (a / 2 ^ (b % 64).toNat), .bool false]) ∧ Below w.heap.size w w' := by
  go_enter Try.func11, Try.ntmps11
  go_wp2_with (first | (go_at_call 20; refine (plain_walk _).mono ?_; rintro e w1 ⟨rfl, hb, hB⟩; have hl := run_lookup_there (key := 10) (v := .func (.func 32) #[] #[]) hb.out rfl) | (go_at_call 32; refine (f32_walk _ _ _).mono ?_; rintro e w2 ⟨rfl, rfl⟩))
  go_ret2
  exact ⟨rfl, hB⟩
set_option maxHeartbeats 400000 in
theorem two_11 (a b : Int) (w : World) : Calls Try.prog 11 #[.int .i64 11, .int .i64 a, .int .i64 b] w fun e w' => e = .returned (.tuple #[.int .i64 (b2i (decide (a < b))), .bool false]) ∧ Below w.heap.size w w' := by
  go_enter Try.func11, Try.ntmps11
  go_wp2_with (first | (go_at_call 20; refine (plain_walk _).mono ?_; rintro e w1 ⟨rfl, hb, hB⟩; have hl := run_lookup_there (key := 11) (v := .func (.func 33) #[] #[]) hb.out rfl) | (go_at_call 33; refine (f33_walk _ _ _).mono ?_; rintro e w2 ⟨rfl, rfl⟩))
  go_ret2
  exact ⟨rfl, hB⟩
set_option maxHeartbeats 400000 in
theorem two_12 (a b : Int) (w : World) : Calls Try.prog 11 #[.int .i64 12, .int .i64 a, .int .i64 b] w fun e w' => e = .returned (.tuple #[.int .i64 (b2i (a == b)), .bool false]) ∧ Below w.heap.size w w' := by
  go_enter Try.func11, Try.ntmps11
  go_wp2_with (first | (go_at_call 20; refine (plain_walk _).mono ?_; rintro e w1 ⟨rfl, hb, hB⟩; have hl := run_lookup_there (key := 12) (v := .func (.func 34) #[] #[]) hb.out rfl) | (go_at_call 34; refine (f34_walk _ _ _).mono ?_; rintro e w2 ⟨rfl, rfl⟩))
  go_ret2
  exact ⟨rfl, hB⟩
set_option maxHeartbeats 400000 in
theorem two_zero (op a b : Int) (hm : Hid (Instr.findNow (.int .i64) (.int .i64 op) ten 0 = some none)) (hb0 : b = 0) (w : World) : Calls Try.prog 11 #[.int .i64 op, .int .i64 a, .int .i64 b] w fun e w' => e = .returned (.tuple #[.int .i64 (0), .bool true]) ∧ Below w.heap.size w w' := by
  subst hb0
  go_enter Try.func11, Try.ntmps11
  go_wp2_with (go_at_call 20; refine (plain_walk _).mono ?_; rintro e w1 ⟨rfl, hb, hB⟩; have hl := run_lookup_miss (key := op) hb.out hm.out)
  go_ret2
  exact ⟨rfl, hB⟩
set_option maxHeartbeats 400000 in
theorem two_div (op a b : Int) (hm : Hid (Instr.findNow (.int .i64) (.int .i64 op) ten 0 = some none)) (hb0 : b ≠ 0) (ho : op = 4) (w : World) : Calls Try.prog 11 #[.int .i64 op, .int .i64 a, .int .i64 b] w fun e w' => e = .returned (.tuple #[.int .i64 (wrap64 (Int.tdiv a b)), .bool false]) ∧ Below w.heap.size w w' := by
  have hz : (b == 0) = false := beq_eq_false_iff_ne.2 hb0
  subst ho
  go_enter Try.func11, Try.ntmps11
  go_wp2_with (go_at_call 20; refine (plain_walk _).mono ?_; rintro e w1 ⟨rfl, hb, hB⟩; have hl := run_lookup_miss (key := 4) hb.out hm.out)
  go_ret2
  exact ⟨rfl, hB⟩
set_option maxHeartbeats 400000 in
theorem two_mod (op a b : Int) (hm : Hid (Instr.findNow (.int .i64) (.int .i64 op) ten 0 = some none)) (hb0 : b ≠ 0) (ho : op = 5) (w : World) : Calls Try.prog 11 #[.int .i64 op, .int .i64 a, .int .i64 b] w fun e w' => e = .returned (.tuple #[.int .i64 (Int.tmod a b), .bool false]) ∧ Below w.heap.size w w' := by
  have hz : (b == 0) = false := beq_eq_false_iff_ne.2 hb0
  subst ho
  go_enter Try.func11, Try.ntmps11
  go_wp2_with (go_at_call 20; refine (plain_walk _).mono ?_; rintro e w1 ⟨rfl, hb, hB⟩; have hl := run_lookup_miss (key := 5) hb.out hm.out)
  go_ret2
  exact ⟨rfl, hB⟩
set_option maxHeartbeats 400000 in
theorem two_none (op a b : Int) (hm : Hid (Instr.findNow (.int .i64) (.int .i64 op) ten 0 = some none)) (hb0 : b ≠ 0) (ho : op ≠ 4) (ho' : op ≠ 5) (w : World) : Calls Try.prog 11 #[.int .i64 op, .int .i64 a, .int .i64 b] w fun e w' => e = .returned (.tuple #[.int .i64 (0), .bool true]) ∧ Below w.heap.size w w' := by
  have hz : (b == 0) = false := beq_eq_false_iff_ne.2 hb0
  have h4 : (op == 4) = false := beq_eq_false_iff_ne.2 ho
  have h5 : (op == 5) = false := beq_eq_false_iff_ne.2 ho'
  go_enter Try.func11, Try.ntmps11
  go_wp2_with (go_at_call 20; refine (plain_walk _).mono ?_; rintro e w1 ⟨rfl, hb, hB⟩; have hl := run_lookup_miss (key := op) hb.out hm.out)
  go_ret2
  exact ⟨rfl, hB⟩
theorem miss (op : Int) (h : ¬ op = 1 ∧ ¬ op = 2 ∧ ¬ op = 3 ∧ ¬ op = 6 ∧ ¬ op = 7 ∧ ¬ op = 8 ∧ ¬ op = 9 ∧ ¬ op = 10 ∧ ¬ op = 11 ∧ ¬ op = 12) : Instr.findNow (.int .i64) (.int .i64 op) ten 0 = some none := by
  have b : ∀ k : Int, ¬ op = k → (op == k) = false := fun k h => beq_eq_false_iff_ne.2 h
  obtain ⟨h1, h2, h3, h6, h7, h8, h9, h10, h11, h12⟩ := h
  simp [ten, ent, Instr.findNow, Instr.sameNow, b _ h1, b _ h2, b _ h3, b _ h6, b _ h7, b _ h8, b _ h9, b _ h10, b _ h11, b _ h12]
theorem two_walk (op a b : Int) (w : World) : Calls Try.prog 11 #[.int .i64 op, .int .i64 a, .int .i64 b] w fun e w' => e = .returned (.tuple #[.int .i64 (two op a b).1, .bool (two op a b).2]) ∧ Below w.heap.size w w' := by
  by_cases h1 : op = 1
  · subst h1; exact two_1 a b w
  by_cases h2 : op = 2
  · subst h2; exact two_2 a b w
  by_cases h3 : op = 3
  · subst h3; exact two_3 a b w
  by_cases h6 : op = 6
  · subst h6; exact two_6 a b w
  by_cases h7 : op = 7
  · subst h7; exact two_7 a b w
  by_cases h8 : op = 8
  · subst h8; exact two_8 a b w
  by_cases h9 : op = 9
  · subst h9; exact two_9 a b w
  by_cases h10 : op = 10
  · subst h10; exact two_10 a b w
  by_cases h11 : op = 11
  · subst h11; exact two_11 a b w
  by_cases h12 : op = 12
  · subst h12; exact two_12 a b w
  have hm := Lib.hid (miss op ⟨h1, h2, h3, h6, h7, h8, h9, h10, h11, h12⟩)
  unfold two
  rw [if_neg h1, if_neg h2, if_neg h3, if_neg h6, if_neg h7, if_neg h8, if_neg h9, if_neg h10, if_neg h11, if_neg h12]
  by_cases hb : b = 0
  · rw [if_pos hb]; exact two_zero op a b hm hb w
  rw [if_neg hb]
  by_cases h4 : op = 4
  · rw [if_pos h4]; exact two_div op a b hm hb h4 w
  rw [if_neg h4]
  by_cases h5 : op = 5
  · rw [if_pos h5]; exact two_mod op a b hm hb h5 w
  rw [if_neg h5]
  exact two_none op a b hm hb h4 h5 w
end Go.Proofs.Ytbbfcfpbdgibaaa.Num
