/- WRITTEN BY A PROGRAM OF THE SESSION out of the translation: functions in plain Lean, and that the calls come to just these answers; Lean checks every line. -/
import Derived.Test.YtbbfcfpbdgibaaaPrint0
import Derived.Test.YtbbfcfpbdgibaaaPrint1
import Derived.Test.YtbbfcfpbdgibaaaPrint2
import Derived.Test.YtbbfcfpbdgibaaaPrint3
import Derived.Test.YtbbfcfpbdgibaaaPrint4
namespace Go.Proofs.Ytbbfcfpbdgibaaa.Print
open Go.RowKit Go.Proofs.YtbbfcfpbdgibaaaW.PrintWords Go.Proofs.YtbbfcfpbdgibaaaW.PrintLast Go.Proofs.YtbbfcfpbdgibaaaW.PrintMore
attribute [local go_sem] max2_int min2_int max_two min_two max_three min_three max_four min_four   -- for this text's walks alone
set_option linter.unusedVariables false
set_option linter.unusedSimpArgs false

/-! ### camshaftref01_Two: function 12 -/
def camshaftref01_Two.f (k : Nat) (a0 : Int) (a1 : Int) (a2 : Int) : Option (Int × Bool) := (camshaftref01_divided.f a1 a2).bind fun bt101 => (if a0 = 1 then (some (wrap64 (a1 + a2), false)) else (if a0 = 2 then (some (wrap64 (a1 - a2), false)) else (if a0 = 3 then (some (wrap64 (a1 * a2), false)) else (if a0 = 4 then (some (bt101.1, bt101.2.2)) else (if a0 = 5 then (some (bt101.2.1, bt101.2.2)) else (if a0 = 6 then (some (Go.bits .and .i64 a1 a2, false)) else (if a0 = 7 then (some (Go.bits .or .i64 a1 a2, false)) else (if a0 = 8 then (some (Go.bits .xor .i64 a1 a2, false)) else (if a0 = 9 then ((camshaftref01_up.f k a1 (Int.tmod (wrap64 ((Int.tmod a2 64) + 64)) 64)).bind fun t104 => (some (t104, false))) else (if a0 = 10 then ((camshaftref01_down.f k a1 (Int.tmod (wrap64 ((Int.tmod a2 64) + 64)) 64)).bind fun t105 => (some (t105, false))) else (if a0 = 11 then ((camshaftref01_Bool.f (decide (a1 < a2))).bind fun t106 => (some (t106, false))) else (if a0 = 12 then ((camshaftref01_Bool.f (a1 == a2)).bind fun t107 => (some (t107, false))) else (some (0, true))))))))))))))
theorem camshaftref01_Two.mono : ∀ a0 a1 a2 k, LeO (camshaftref01_Two.f k a0 a1 a2) (camshaftref01_Two.f (k + 1) a0 a1 a2) := by
  intro a0 a1 a2 k
  unfold camshaftref01_Two.f
  repeat' first
      | (with_reducible exact camshaftref01_down.mono _ _ _)
      | (with_reducible exact camshaftref01_up.mono _ _ _)
      | (with_reducible exact LeO.refl _)
      | (with_reducible exact LeO.none _)
      | (with_reducible refine LeO.ite ?_ ?_)
      | (with_reducible refine LeO.bind ?_ (fun _ => ?_))
      | exact camshaftref01_down.mono _ _ _
      | exact camshaftref01_up.mono _ _ _
      | exact LeO.none _
      | refine LeO.ite ?_ ?_
      | refine LeO.bind ?_ (fun _ => ?_)
set_option maxHeartbeats 8000000 in
set_option maxRecDepth 100000 in
theorem camshaftref01_Two.calls (k : Nat) (a0 : Int) (a1 : Int) (a2 : Int) (r1 : Int) (r2 : Bool) (w : World) (h : camshaftref01_Two.f k a0 a1 a2 = some (r1, r2)) :
    Calls Try.prog 12 #[.int .i64 a0, .int .i64 a1, .int .i64 a2] w fun e w' => e = .returned (.tuple #[.int .i64 r1, .bool r2]) ∧ Drawn0 w w' := by
  have H : ((camshaftref01_divided.f a1 a2).bind fun bt101 => (if a0 = 1 then (some (wrap64 (a1 + a2), false)) else (if a0 = 2 then (some (wrap64 (a1 - a2), false)) else (if a0 = 3 then (some (wrap64 (a1 * a2), false)) else (if a0 = 4 then (some (bt101.1, bt101.2.2)) else (if a0 = 5 then (some (bt101.2.1, bt101.2.2)) else (if a0 = 6 then (some (Go.bits .and .i64 a1 a2, false)) else (if a0 = 7 then (some (Go.bits .or .i64 a1 a2, false)) else (if a0 = 8 then (some (Go.bits .xor .i64 a1 a2, false)) else (if a0 = 9 then ((camshaftref01_up.f k a1 (Int.tmod (wrap64 ((Int.tmod a2 64) + 64)) 64)).bind fun t104 => (some (t104, false))) else (if a0 = 10 then ((camshaftref01_down.f k a1 (Int.tmod (wrap64 ((Int.tmod a2 64) + 64)) 64)).bind fun t105 => (some (t105, false))) else (if a0 = 11 then ((camshaftref01_Bool.f (decide (a1 < a2))).bind fun t106 => (some (t106, false))) else (if a0 = 12 then ((camshaftref01_Bool.f (a1 == a2)).bind fun t107 => (some (t107, false))) else (some (0, true))))))))))))))) = some (r1, r2) := h
  clear h
  replace H := Option.bind_eq_some_iff.mp H
  obtain ⟨⟨t101, t102, t103⟩, A40, H⟩ := H
  replace H : (if a0 = 1 then (some (wrap64 (a1 + a2), false)) else (if a0 = 2 then (some (wrap64 (a1 - a2), false)) else (if a0 = 3 then (some (wrap64 (a1 * a2), false)) else (if a0 = 4 then (some (t101, t103)) else (if a0 = 5 then (some (t102, t103)) else (if a0 = 6 then (some (Go.bits .and .i64 a1 a2, false)) else (if a0 = 7 then (some (Go.bits .or .i64 a1 a2, false)) else (if a0 = 8 then (some (Go.bits .xor .i64 a1 a2, false)) else (if a0 = 9 then ((camshaftref01_up.f k a1 (Int.tmod (wrap64 ((Int.tmod a2 64) + 64)) 64)).bind fun t104 => (some (t104, false))) else (if a0 = 10 then ((camshaftref01_down.f k a1 (Int.tmod (wrap64 ((Int.tmod a2 64) + 64)) 64)).bind fun t105 => (some (t105, false))) else (if a0 = 11 then ((camshaftref01_Bool.f (decide (a1 < a2))).bind fun t106 => (some (t106, false))) else (if a0 = 12 then ((camshaftref01_Bool.f (a1 == a2)).bind fun t107 => (some (t107, false))) else (some (0, true)))))))))))))) = some (r1, r2) := H
  have A4 := Aside0.mk A40
  clear A40
  by_cases c5 : a0 = 1
  · rw [if_pos c5] at H
    have c5b0 : (a0 == 1) = true := beq_iff_eq.mpr c5
    have c5b1 : (a0 != 1) = false := bne_eq_false_iff_eq.mpr c5
    clear c5
    simp only [Option.some.injEq, Prod.mk.injEq] at H
    obtain ⟨rfl, rfl⟩ := H
    go_enter Try.func12, Try.ntmps12
    go_wp2_with (first | ((with_reducible refine gate_callee (f := 21) rfl ?_); refine goesL_ (some 19) rfl rfl Try.func21 (by kernel_rfl) rfl #[.int .i64 a1, .int .i64 a2] rfl (by (try simp only [List.map_toArray, List.map_cons, List.map_nil]); first | done | rfl | (simp only [List.length_drop, List.length_take]; rfl)) ?_; (with_reducible refine (camshaftref01_divided.calls a1 a2 t101 t102 t103 _ A4.out).mono ?_); rintro e w' ⟨rfl, ⟨nd, rfl⟩⟩; refine ⟨_, rfl, ?_⟩))
    go_ret2
    exact ⟨by first | rfl | (simp; done) | (simp [*]; done), by repeat (first | exact Drawn0.refl _ | apply Drawn0.step)⟩
  · rw [if_neg c5] at H
    have c5b0 : (a0 == 1) = false := beq_eq_false_iff_ne.mpr c5
    have c5b1 : (a0 != 1) = true := bne_iff_ne.mpr c5
    by_cases c6 : a0 = 2
    · rw [if_pos c6] at H
      have c6b0 : (a0 == 2) = true := beq_iff_eq.mpr c6
      have c6b1 : (a0 != 2) = false := bne_eq_false_iff_eq.mpr c6
      clear c6
      simp only [Option.some.injEq, Prod.mk.injEq] at H
      obtain ⟨rfl, rfl⟩ := H
      go_enter Try.func12, Try.ntmps12
      go_wp2_with (first | ((with_reducible refine gate_callee (f := 21) rfl ?_); refine goesL_ (some 19) rfl rfl Try.func21 (by kernel_rfl) rfl #[.int .i64 a1, .int .i64 a2] rfl (by (try simp only [List.map_toArray, List.map_cons, List.map_nil]); first | done | rfl | (simp only [List.length_drop, List.length_take]; rfl)) ?_; (with_reducible refine (camshaftref01_divided.calls a1 a2 t101 t102 t103 _ A4.out).mono ?_); rintro e w' ⟨rfl, ⟨nd, rfl⟩⟩; refine ⟨_, rfl, ?_⟩))
      go_ret2
      exact ⟨by first | rfl | (simp; done) | (simp [*]; done), by repeat (first | exact Drawn0.refl _ | apply Drawn0.step)⟩
    · rw [if_neg c6] at H
      have c6b0 : (a0 == 2) = false := beq_eq_false_iff_ne.mpr c6
      have c6b1 : (a0 != 2) = true := bne_iff_ne.mpr c6
      by_cases c7 : a0 = 3
      · rw [if_pos c7] at H
        have c7b0 : (a0 == 3) = true := beq_iff_eq.mpr c7
        have c7b1 : (a0 != 3) = false := bne_eq_false_iff_eq.mpr c7
        clear c7
        simp only [Option.some.injEq, Prod.mk.injEq] at H
        obtain ⟨rfl, rfl⟩ := H
        go_enter Try.func12, Try.ntmps12
        go_wp2_with (first | ((with_reducible refine gate_callee (f := 21) rfl ?_); refine goesL_ (some 19) rfl rfl Try.func21 (by kernel_rfl) rfl #[.int .i64 a1, .int .i64 a2] rfl (by (try simp only [List.map_toArray, List.map_cons, List.map_nil]); first | done | rfl | (simp only [List.length_drop, List.length_take]; rfl)) ?_; (with_reducible refine (camshaftref01_divided.calls a1 a2 t101 t102 t103 _ A4.out).mono ?_); rintro e w' ⟨rfl, ⟨nd, rfl⟩⟩; refine ⟨_, rfl, ?_⟩))
        go_ret2
        exact ⟨by first | rfl | (simp; done) | (simp [*]; done), by repeat (first | exact Drawn0.refl _ | apply Drawn0.step)⟩
      · rw [if_neg c7] at H
        have c7b0 : (a0 == 3) = false := beq_eq_false_iff_ne.mpr c7
        have c7b1 : (a0 != 3) = true := bne_iff_ne.mpr c7
        by_cases c8 : a0 = 4
        · rw [if_pos c8] at H
          have c8b0 : (a0 == 4) = true := beq_iff_eq.mpr c8
          have c8b1 : (a0 != 4) = false := bne_eq_false_iff_eq.mpr c8
          clear c8
          simp only [Option.some.injEq, Prod.mk.injEq] at H
          obtain ⟨rfl, rfl⟩ := H
          go_enter Try.func12, Try.ntmps12
          go_wp2_with (first | ((with_reducible refine gate_callee (f := 21) rfl ?_); refine goesL_ (some 19) rfl rfl Try.func21 (by kernel_rfl) rfl #[.int .i64 a1, .int .i64 a2] rfl (by (try simp only [List.map_toArray, List.map_cons, List.map_nil]); first | done | rfl | (simp only [List.length_drop, List.length_take]; rfl)) ?_; (with_reducible refine (camshaftref01_divided.calls a1 a2 t101 t102 t103 _ A4.out).mono ?_); rintro e w' ⟨rfl, ⟨nd, rfl⟩⟩; refine ⟨_, rfl, ?_⟩))
          go_ret2
          exact ⟨by first | rfl | (simp; done) | (simp [*]; done), by repeat (first | exact Drawn0.refl _ | apply Drawn0.step)⟩
        · rw [if_neg c8] at H
          have c8b0 : (a0 == 4) = false := beq_eq_false_iff_ne.mpr c8
          have c8b1 : (a0 != 4) = true := bne_iff_ne.mpr c8
          by_cases c9 : a0 = 5
          · rw [if_pos c9] at H
            have c9b0 : (a0 == 5) = true := beq_iff_eq.mpr c9
            have c9b1 : (a0 != 5) = false := bne_eq_false_iff_eq.mpr c9
            clear c9
            simp only [Option.some.injEq, Prod.mk.injEq] at H
            obtain ⟨rfl, rfl⟩ := H
            go_enter Try.func12, Try.ntmps12
            go_wp2_with (first | ((with_reducible refine gate_callee (f := 21) rfl ?_); refine goesL_ (some 19) rfl rfl Try.func21 (by kernel_rfl) rfl #[.int .i64 a1, .int .i64 a2] rfl (by (try simp only [List.map_toArray, List.map_cons, List.map_nil]); first | done | rfl | (simp only [List.length_drop, List.length_take]; rfl)) ?_; (with_reducible refine (camshaftref01_divided.calls a1 a2 t101 t102 t103 _ A4.out).mono ?_); rintro e w' ⟨rfl, ⟨nd, rfl⟩⟩; refine ⟨_, rfl, ?_⟩))
            go_ret2
            exact ⟨by first | rfl | (simp; done) | (simp [*]; done), by repeat (first | exact Drawn0.refl _ | apply Drawn0.step)⟩
          · rw [if_neg c9] at H
            have c9b0 : (a0 == 5) = false := beq_eq_false_iff_ne.mpr c9
            have c9b1 : (a0 != 5) = true := bne_iff_ne.mpr c9
            by_cases c10 : a0 = 6
            · rw [if_pos c10] at H
              have c10b0 : (a0 == 6) = true := beq_iff_eq.mpr c10
              have c10b1 : (a0 != 6) = false := bne_eq_false_iff_eq.mpr c10
              clear c10
              simp only [Option.some.injEq, Prod.mk.injEq] at H
              obtain ⟨rfl, rfl⟩ := H
              go_enter Try.func12, Try.ntmps12
              go_wp2_with (first | ((with_reducible refine gate_callee (f := 21) rfl ?_); refine goesL_ (some 19) rfl rfl Try.func21 (by kernel_rfl) rfl #[.int .i64 a1, .int .i64 a2] rfl (by (try simp only [List.map_toArray, List.map_cons, List.map_nil]); first | done | rfl | (simp only [List.length_drop, List.length_take]; rfl)) ?_; (with_reducible refine (camshaftref01_divided.calls a1 a2 t101 t102 t103 _ A4.out).mono ?_); rintro e w' ⟨rfl, ⟨nd, rfl⟩⟩; refine ⟨_, rfl, ?_⟩))
              go_ret2
              exact ⟨by first | rfl | (simp; done) | (simp [*]; done), by repeat (first | exact Drawn0.refl _ | apply Drawn0.step)⟩
            · rw [if_neg c10] at H
              have c10b0 : (a0 == 6) = false := beq_eq_false_iff_ne.mpr c10
              have c10b1 : (a0 != 6) = true := bne_iff_ne.mpr c10
              by_cases c11 : a0 = 7
              · rw [if_pos c11] at H
                have c11b0 : (a0 == 7) = true := beq_iff_eq.mpr c11
                have c11b1 : (a0 != 7) = false := bne_eq_false_iff_eq.mpr c11
                clear c11
                simp only [Option.some.injEq, Prod.mk.injEq] at H
                obtain ⟨rfl, rfl⟩ := H
                go_enter Try.func12, Try.ntmps12
                go_wp2_with (first | ((with_reducible refine gate_callee (f := 21) rfl ?_); refine goesL_ (some 19) rfl rfl Try.func21 (by kernel_rfl) rfl #[.int .i64 a1, .int .i64 a2] rfl (by (try simp only [List.map_toArray, List.map_cons, List.map_nil]); first | done | rfl | (simp only [List.length_drop, List.length_take]; rfl)) ?_; (with_reducible refine (camshaftref01_divided.calls a1 a2 t101 t102 t103 _ A4.out).mono ?_); rintro e w' ⟨rfl, ⟨nd, rfl⟩⟩; refine ⟨_, rfl, ?_⟩))
                go_ret2
                exact ⟨by first | rfl | (simp; done) | (simp [*]; done), by repeat (first | exact Drawn0.refl _ | apply Drawn0.step)⟩
              · rw [if_neg c11] at H
                have c11b0 : (a0 == 7) = false := beq_eq_false_iff_ne.mpr c11
                have c11b1 : (a0 != 7) = true := bne_iff_ne.mpr c11
                by_cases c12 : a0 = 8
                · rw [if_pos c12] at H
                  have c12b0 : (a0 == 8) = true := beq_iff_eq.mpr c12
                  have c12b1 : (a0 != 8) = false := bne_eq_false_iff_eq.mpr c12
                  clear c12
                  simp only [Option.some.injEq, Prod.mk.injEq] at H
                  obtain ⟨rfl, rfl⟩ := H
                  go_enter Try.func12, Try.ntmps12
                  go_wp2_with (first | ((with_reducible refine gate_callee (f := 21) rfl ?_); refine goesL_ (some 19) rfl rfl Try.func21 (by kernel_rfl) rfl #[.int .i64 a1, .int .i64 a2] rfl (by (try simp only [List.map_toArray, List.map_cons, List.map_nil]); first | done | rfl | (simp only [List.length_drop, List.length_take]; rfl)) ?_; (with_reducible refine (camshaftref01_divided.calls a1 a2 t101 t102 t103 _ A4.out).mono ?_); rintro e w' ⟨rfl, ⟨nd, rfl⟩⟩; refine ⟨_, rfl, ?_⟩))
                  go_ret2
                  exact ⟨by first | rfl | (simp; done) | (simp [*]; done), by repeat (first | exact Drawn0.refl _ | apply Drawn0.step)⟩
                · rw [if_neg c12] at H
                  have c12b0 : (a0 == 8) = false := beq_eq_false_iff_ne.mpr c12
                  have c12b1 : (a0 != 8) = true := bne_iff_ne.mpr c12
                  by_cases c13 : a0 = 9
                  · rw [if_pos c13] at H
                    have c13b0 : (a0 == 9) = true := beq_iff_eq.mpr c13
                    have c13b1 : (a0 != 9) = false := bne_eq_false_iff_eq.mpr c13
                    clear c13
                    replace H := Option.bind_eq_some_iff.mp H
                    obtain ⟨t104, A140, H⟩ := H
                    replace H : (some (t104, false)) = some (r1, r2) := H
                    have A14 := Aside0.mk A140
                    clear A140
                    simp only [Option.some.injEq, Prod.mk.injEq] at H
                    obtain ⟨rfl, rfl⟩ := H
                    go_enter Try.func12, Try.ntmps12
                    go_wp2_with (first | ((with_reducible refine gate_callee (f := 21) rfl ?_); refine goesL_ (some 19) rfl rfl Try.func21 (by kernel_rfl) rfl #[.int .i64 a1, .int .i64 a2] rfl (by (try simp only [List.map_toArray, List.map_cons, List.map_nil]); first | done | rfl | (simp only [List.length_drop, List.length_take]; rfl)) ?_; (with_reducible refine (camshaftref01_divided.calls a1 a2 t101 t102 t103 _ A4.out).mono ?_); rintro e w' ⟨rfl, ⟨nd, rfl⟩⟩; refine ⟨_, rfl, ?_⟩) | ((with_reducible refine gate_callee (f := 22) rfl ?_); refine goesL_ (some 66) rfl rfl Try.func22 (by kernel_rfl) rfl #[.int .i64 a1, .int .i64 (Int.tmod (wrap64 ((Int.tmod a2 64) + 64)) 64)] rfl (by (try simp only [List.map_toArray, List.map_cons, List.map_nil]); first | done | rfl | (simp only [List.length_drop, List.length_take]; rfl)) ?_; (with_reducible refine (camshaftref01_up.calls k a1 (Int.tmod (wrap64 ((Int.tmod a2 64) + 64)) 64) t104 _ A14.out).mono ?_); rintro e w' ⟨rfl, ⟨nd, rfl⟩⟩; refine ⟨_, rfl, ?_⟩))
                    go_ret2
                    exact ⟨by first | rfl | (simp; done) | (simp [*]; done), by repeat (first | exact Drawn0.refl _ | apply Drawn0.step)⟩
                  · rw [if_neg c13] at H
                    have c13b0 : (a0 == 9) = false := beq_eq_false_iff_ne.mpr c13
                    have c13b1 : (a0 != 9) = true := bne_iff_ne.mpr c13
                    by_cases c15 : a0 = 10
                    · rw [if_pos c15] at H
                      have c15b0 : (a0 == 10) = true := beq_iff_eq.mpr c15
                      have c15b1 : (a0 != 10) = false := bne_eq_false_iff_eq.mpr c15
                      clear c15
                      replace H := Option.bind_eq_some_iff.mp H
                      obtain ⟨t105, A160, H⟩ := H
                      replace H : (some (t105, false)) = some (r1, r2) := H
                      have A16 := Aside0.mk A160
                      clear A160
                      simp only [Option.some.injEq, Prod.mk.injEq] at H
                      obtain ⟨rfl, rfl⟩ := H
                      go_enter Try.func12, Try.ntmps12
                      go_wp2_with (first | ((with_reducible refine gate_callee (f := 21) rfl ?_); refine goesL_ (some 19) rfl rfl Try.func21 (by kernel_rfl) rfl #[.int .i64 a1, .int .i64 a2] rfl (by (try simp only [List.map_toArray, List.map_cons, List.map_nil]); first | done | rfl | (simp only [List.length_drop, List.length_take]; rfl)) ?_; (with_reducible refine (camshaftref01_divided.calls a1 a2 t101 t102 t103 _ A4.out).mono ?_); rintro e w' ⟨rfl, ⟨nd, rfl⟩⟩; refine ⟨_, rfl, ?_⟩) | ((with_reducible refine gate_callee (f := 23) rfl ?_); refine goesL_ (some 71) rfl rfl Try.func23 (by kernel_rfl) rfl #[.int .i64 a1, .int .i64 (Int.tmod (wrap64 ((Int.tmod a2 64) + 64)) 64)] rfl (by (try simp only [List.map_toArray, List.map_cons, List.map_nil]); first | done | rfl | (simp only [List.length_drop, List.length_take]; rfl)) ?_; (with_reducible refine (camshaftref01_down.calls k a1 (Int.tmod (wrap64 ((Int.tmod a2 64) + 64)) 64) t105 _ A16.out).mono ?_); rintro e w' ⟨rfl, ⟨nd, rfl⟩⟩; refine ⟨_, rfl, ?_⟩))
                      go_ret2
                      exact ⟨by first | rfl | (simp; done) | (simp [*]; done), by repeat (first | exact Drawn0.refl _ | apply Drawn0.step)⟩
                    · rw [if_neg c15] at H
                      have c15b0 : (a0 == 10) = false := beq_eq_false_iff_ne.mpr c15
                      have c15b1 : (a0 != 10) = true := bne_iff_ne.mpr c15
                      by_cases c17 : a0 = 11
                      · rw [if_pos c17] at H
                        have c17b0 : (a0 == 11) = true := beq_iff_eq.mpr c17
                        have c17b1 : (a0 != 11) = false := bne_eq_false_iff_eq.mpr c17
                        clear c17
                        replace H := Option.bind_eq_some_iff.mp H
                        obtain ⟨t106, A180, H⟩ := H
                        replace H : (some (t106, false)) = some (r1, r2) := H
                        have A18 := Aside0.mk A180
                        clear A180
                        simp only [Option.some.injEq, Prod.mk.injEq] at H
                        obtain ⟨rfl, rfl⟩ := H
                        go_enter Try.func12, Try.ntmps12
                        go_wp2_with (first | ((with_reducible refine gate_callee (f := 21) rfl ?_); refine goesL_ (some 19) rfl rfl Try.func21 (by kernel_rfl) rfl #[.int .i64 a1, .int .i64 a2] rfl (by (try simp only [List.map_toArray, List.map_cons, List.map_nil]); first | done | rfl | (simp only [List.length_drop, List.length_take]; rfl)) ?_; (with_reducible refine (camshaftref01_divided.calls a1 a2 t101 t102 t103 _ A4.out).mono ?_); rintro e w' ⟨rfl, ⟨nd, rfl⟩⟩; refine ⟨_, rfl, ?_⟩) | ((with_reducible refine gate_callee (f := 15) rfl ?_); refine goesL_ (some 77) rfl rfl Try.func15 (by kernel_rfl) rfl #[.bool (decide (a1 < a2))] rfl (by (try simp only [List.map_toArray, List.map_cons, List.map_nil]); first | done | rfl | (simp only [List.length_drop, List.length_take]; rfl)) ?_; (with_reducible refine (camshaftref01_Bool.calls (decide (a1 < a2)) t106 _ A18.out).mono ?_); rintro e w' ⟨rfl, ⟨nd, rfl⟩⟩; refine ⟨_, rfl, ?_⟩))
                        go_ret2
                        exact ⟨by first | rfl | (simp; done) | (simp [*]; done), by repeat (first | exact Drawn0.refl _ | apply Drawn0.step)⟩
                      · rw [if_neg c17] at H
                        have c17b0 : (a0 == 11) = false := beq_eq_false_iff_ne.mpr c17
                        have c17b1 : (a0 != 11) = true := bne_iff_ne.mpr c17
                        by_cases c19 : a0 = 12
                        · rw [if_pos c19] at H
                          have c19b0 : (a0 == 12) = true := beq_iff_eq.mpr c19
                          have c19b1 : (a0 != 12) = false := bne_eq_false_iff_eq.mpr c19
                          clear c19
                          replace H := Option.bind_eq_some_iff.mp H
                          obtain ⟨t107, A200, H⟩ := H
                          replace H : (some (t107, false)) = some (r1, r2) := H
                          have A20 := Aside0.mk A200
                          clear A200
                          simp only [Option.some.injEq, Prod.mk.injEq] at H
                          obtain ⟨rfl, rfl⟩ := H
                          go_enter Try.func12, Try.ntmps12
                          go_wp2_with (first | ((with_reducible refine gate_callee (f := 21) rfl ?_); refine goesL_ (some 19) rfl rfl Try.func21 (by kernel_rfl) rfl #[.int .i64 a1, .int .i64 a2] rfl (by (try simp only [List.map_toArray, List.map_cons, List.map_nil]); first | done | rfl | (simp only [List.length_drop, List.length_take]; rfl)) ?_; (with_reducible refine (camshaftref01_divided.calls a1 a2 t101 t102 t103 _ A4.out).mono ?_); rintro e w' ⟨rfl, ⟨nd, rfl⟩⟩; refine ⟨_, rfl, ?_⟩) | ((with_reducible refine gate_callee (f := 15) rfl ?_); refine goesL_ (some 83) rfl rfl Try.func15 (by kernel_rfl) rfl #[.bool (a1 == a2)] rfl (by (try simp only [List.map_toArray, List.map_cons, List.map_nil]); first | done | rfl | (simp only [List.length_drop, List.length_take]; rfl)) ?_; (with_reducible refine (camshaftref01_Bool.calls (a1 == a2) t107 _ A20.out).mono ?_); rintro e w' ⟨rfl, ⟨nd, rfl⟩⟩; refine ⟨_, rfl, ?_⟩))
                          go_ret2
                          exact ⟨by first | rfl | (simp; done) | (simp [*]; done), by repeat (first | exact Drawn0.refl _ | apply Drawn0.step)⟩
                        · rw [if_neg c19] at H
                          have c19b0 : (a0 == 12) = false := beq_eq_false_iff_ne.mpr c19
                          have c19b1 : (a0 != 12) = true := bne_iff_ne.mpr c19
                          simp only [Option.some.injEq, Prod.mk.injEq] at H
                          obtain ⟨rfl, rfl⟩ := H
                          go_enter Try.func12, Try.ntmps12
                          go_wp2_with (first | ((with_reducible refine gate_callee (f := 21) rfl ?_); refine goesL_ (some 19) rfl rfl Try.func21 (by kernel_rfl) rfl #[.int .i64 a1, .int .i64 a2] rfl (by (try simp only [List.map_toArray, List.map_cons, List.map_nil]); first | done | rfl | (simp only [List.length_drop, List.length_take]; rfl)) ?_; (with_reducible refine (camshaftref01_divided.calls a1 a2 t101 t102 t103 _ A4.out).mono ?_); rintro e w' ⟨rfl, ⟨nd, rfl⟩⟩; refine ⟨_, rfl, ?_⟩))
                          go_ret2
                          exact ⟨by first | rfl | (simp; done) | (simp [*]; done), by repeat (first | exact Drawn0.refl _ | apply Drawn0.step)⟩

end Go.Proofs.Ytbbfcfpbdgibaaa.Print
