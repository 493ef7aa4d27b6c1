/- The walk of camshaftlaw01.known: what must come of the fixed calls comes of them; nothing that was there is turned. -/
import Derived.Test.YtbbfcfpbdgibaaaNumName
namespace Go.Proofs.Ytbbfcfpbdgibaaa.Num
open Go.RowKit
theorem bt {w a b : World} (h : Below w.heap.size w a) (k : Below a.heap.size a b) : Below w.heap.size w b := h.trans (k.mono h.size)
theorem neg_walk (a : Int) (w : World) : Calls Try.prog 13 #[.int .i64 a] w fun e w' => e = .returned (.int .i64 (wrap64 (-a))) ∧ w = w' := by
  go_enter Try.func13, Try.ntmps13
  go_wp2
  go_ret
  exact ⟨rfl, rfl⟩
theorem not_walk (a : Int) (w : World) : Calls Try.prog 14 #[.int .i64 a] w fun e w' => e = .returned (.int .i64 (b2i (a == 0))) ∧ w = w' := by
  go_enter Try.func14, Try.ntmps14
  go_wp2_with (go_at_call 16; refine (bool_walk _ _).mono ?_; rintro e w1 ⟨rfl, rfl⟩)
  go_ret
  exact ⟨rfl, rfl⟩
set_option maxRecDepth 100000 in
set_option maxHeartbeats 1000000 in
theorem known_walk (w : World) : Calls Try.prog 19 #[] w fun e w' => e = .returned (.bool true) ∧ Below w.heap.size w w' := by
  have HB := Below.refl w.heap.size w
  have T1 : ∀ w, Calls Try.prog 11 #[.int .i64 4, .int .i64 (-7), .int .i64 2] w fun e w' => e = .returned (.tuple #[.int .i64 (-3), .bool false]) ∧ Below w.heap.size w w' := fun w => by have h := two_walk 4 (-7) 2 w; rw [show two 4 (-7) 2 = (-3, false) from by decide +kernel] at h; exact h
  have T2 : ∀ w, Calls Try.prog 11 #[.int .i64 5, .int .i64 (-7), .int .i64 2] w fun e w' => e = .returned (.tuple #[.int .i64 (-1), .bool false]) ∧ Below w.heap.size w w' := two_walk 5 (-7) 2
  have T3 : ∀ w, Calls Try.prog 11 #[.int .i64 10, .int .i64 (-7), .int .i64 1] w fun e w' => e = .returned (.tuple #[.int .i64 (-4), .bool false]) ∧ Below w.heap.size w w' := two_walk 10 (-7) 1
  have T4 : ∀ w, Calls Try.prog 11 #[.int .i64 4, .int .i64 5, .int .i64 0] w fun e w' => e = .returned (.tuple #[.int .i64 0, .bool true]) ∧ Below w.heap.size w w' := two_walk 4 5 0
  have T5 : ∀ w, Calls Try.prog 11 #[.int .i64 1, .int .i64 9223372036854775807, .int .i64 1] w fun e w' => e = .returned (.tuple #[.int .i64 (-9223372036854775808), .bool false]) ∧ Below w.heap.size w w' := fun w => by have h := two_walk 1 9223372036854775807 1 w; rw [show two 1 9223372036854775807 1 = (-9223372036854775808, false) from by decide +kernel] at h; exact h
  have T6 : ∀ w, Calls Try.prog 11 #[.int .i64 13, .int .i64 5, .int .i64 3] w fun e w' => e = .returned (.tuple #[.int .i64 0, .bool true]) ∧ Below w.heap.size w w' := two_walk 13 5 3
  have N1 : ∀ w, Calls Try.prog 13 #[.int .i64 5] w fun e w' => e = .returned (.int .i64 (-5)) ∧ w = w' := fun w => by have h := neg_walk 5 w; rw [show wrap64 (-5) = -5 from by decide +kernel] at h; exact h
  have N2 : ∀ w, Calls Try.prog 14 #[.int .i64 0] w fun e w' => e = .returned (.int .i64 1) ∧ w = w' := not_walk 0
  have N3 : ∀ w, Calls Try.prog 14 #[.int .i64 7] w fun e w' => e = .returned (.int .i64 0) ∧ w = w' := not_walk 7
  have N4 : ∀ w, Calls Try.prog 16 #[.bool true] w fun e w' => e = .returned (.int .i64 1) ∧ w = w' := bool_walk true
  have N5 : ∀ w, Calls Try.prog 17 #[.int .i64 12] w fun e w' => e = .returned (.string ⟨#[69, 81]⟩) ∧ Below w.heap.size w w' := name_walk 12
  have N6 : ∀ w, Calls Try.prog 17 #[.int .i64 0] w fun e w' => e = .returned (.string ⟨#[]⟩) ∧ Below w.heap.size w w' := name_walk 0
  replace T1 := Lib.hid T1; replace T2 := Lib.hid T2; replace T3 := Lib.hid T3; replace T4 := Lib.hid T4; replace T5 := Lib.hid T5; replace T6 := Lib.hid T6
  replace N1 := Lib.hid N1; replace N2 := Lib.hid N2; replace N3 := Lib.hid N3; replace N4 := Lib.hid N4; replace N5 := Lib.hid N5; replace N6 := Lib.hid N6
  go_enter Try.func19, Try.ntmps19
  go_wp2_with fail
  refine (T1.out _).mono ?_
  rintro e w1 ⟨rfl, hb⟩
  replace HB := bt HB hb; clear hb
  go_wp2_with fail
  refine (T2.out _).mono ?_
  rintro e w2 ⟨rfl, hb⟩
  replace HB := bt HB hb; clear hb
  go_wp2_with fail
  refine (T3.out _).mono ?_
  rintro e w3 ⟨rfl, hb⟩
  replace HB := bt HB hb; clear hb
  go_wp2_with fail
  refine (T4.out _).mono ?_
  rintro e w4 ⟨rfl, hb⟩
  replace HB := bt HB hb; clear hb
  go_wp2_with fail
  refine (T5.out _).mono ?_
  rintro e w5 ⟨rfl, hb⟩
  replace HB := bt HB hb; clear hb
  go_wp2_with fail
  refine (T6.out _).mono ?_
  rintro e w6 ⟨rfl, hb⟩
  replace HB := bt HB hb; clear hb
  go_wp2_with fail
  refine (N1.out _).mono ?_
  rintro e w7 ⟨rfl, rfl⟩
  go_wp2_with fail
  refine (N2.out _).mono ?_
  rintro e w8 ⟨rfl, rfl⟩
  go_wp2_with fail
  refine (N3.out _).mono ?_
  rintro e w9 ⟨rfl, rfl⟩
  go_wp2_with fail
  refine (N4.out _).mono ?_
  rintro e w10 ⟨rfl, rfl⟩
  go_wp2_with fail
  refine (N5.out _).mono ?_
  rintro e w11 ⟨rfl, hb⟩
  replace HB := bt HB hb; clear hb
  go_wp2_with fail
  refine (N6.out _).mono ?_
  rintro e w12 ⟨rfl, hb⟩
  replace HB := bt HB hb; clear hb
  go_wp2_with fail
  go_ret
  exact ⟨rfl, HB⟩
end Go.Proofs.Ytbbfcfpbdgibaaa.Num
