/- WRITTEN BY A PROGRAM OF THE SESSION out of the translation: functions in plain Lean, and that the calls come to just these answers; Lean checks every line. -/
import Derived.Test.YtbbfcfpbdgibaaaPrint0
import Derived.Test.YtbbfcfpbdgibaaaPrint1
import Derived.Test.YtbbfcfpbdgibaaaPrint6
import Derived.Test.YtbbfcfpbdgibaaaPrint7
import Derived.Test.YtbbfcfpbdgibaaaPrint9
namespace Go.Proofs.Ytbbfcfpbdgibaaa.Print
open Go.RowKit Go.Proofs.YtbbfcfpbdgibaaaW.PrintWords Go.Proofs.YtbbfcfpbdgibaaaW.PrintLast Go.Proofs.YtbbfcfpbdgibaaaW.PrintMore
attribute [local go_sem] max2_int min2_int max_two min_two max_three min_three max_four min_four   -- for this text's walks alone
set_option linter.unusedVariables false
set_option linter.unusedSimpArgs false

/-! ### camshaftlaw01_NumNots: function 10 -/
def camshaftlaw01_NumNots.f (a0 : Int) (a1 : Int) (a2 : Bool) : Option (Bool) := (num_Two.f 11 a0 a1).bind fun bt258 => ((num_Two.f 12 a0 a1).bind fun bt260 => ((num_Bool.f a2).bind fun t262 => (if ((t262 == 1) == a2) = true then (if ((t262 == 0) != a2) = true then ((num_Not.f t262).bind fun t263 => ((num_Not.f t263).bind fun t264 => (if t264 = t262 then ((num_Not.f a0).bind fun t265 => ((num_Not.f t265).bind fun t266 => (if ((t266 == 0) == (a0 == 0)) = true then (if ((bt258.1 == 1) == (decide (a0 < a1))) = true then (if ((bt258.1 == 0) == (decide (a0 ≥ a1))) = true then (if ((bt260.1 == 1) == (a0 == a1)) = true then (if ((bt260.1 == 0) == (a0 != a1)) = true then ((camshaftlaw01_known.f).bind fun t267 => (some t267)) else (some false)) else (some false)) else (some false)) else (some false)) else (some false)))) else (some false)))) else (some false)) else (some false))))
set_option maxHeartbeats 8000000 in
set_option maxRecDepth 100000 in
theorem camshaftlaw01_NumNots.calls (a0 : Int) (a1 : Int) (a2 : Bool) (r : Bool) (w : World) (h : camshaftlaw01_NumNots.f a0 a1 a2 = some r) :
    Calls Try.prog 10 #[.int .i64 a0, .int .i64 a1, .bool a2] w fun e w' => e = .returned (.bool r) ∧ Below w.heap.size w w' := by
  have HB := Aside0.mk (Below.refl w.heap.size w)
  have H : ((num_Two.f 11 a0 a1).bind fun bt258 => ((num_Two.f 12 a0 a1).bind fun bt260 => ((num_Bool.f a2).bind fun t262 => (if ((t262 == 1) == a2) = true then (if ((t262 == 0) != a2) = true then ((num_Not.f t262).bind fun t263 => ((num_Not.f t263).bind fun t264 => (if t264 = t262 then ((num_Not.f a0).bind fun t265 => ((num_Not.f t265).bind fun t266 => (if ((t266 == 0) == (a0 == 0)) = true then (if ((bt258.1 == 1) == (decide (a0 < a1))) = true then (if ((bt258.1 == 0) == (decide (a0 ≥ a1))) = true then (if ((bt260.1 == 1) == (a0 == a1)) = true then (if ((bt260.1 == 0) == (a0 != a1)) = true then ((camshaftlaw01_known.f).bind fun t267 => (some t267)) else (some false)) else (some false)) else (some false)) else (some false)) else (some false)))) else (some false)))) else (some false)) else (some false))))) = some r := h
  clear h
  replace H := Option.bind_eq_some_iff.mp H
  obtain ⟨⟨t258, t259⟩, A40, H⟩ := H
  replace H : ((num_Two.f 12 a0 a1).bind fun bt260 => ((num_Bool.f a2).bind fun t262 => (if ((t262 == 1) == a2) = true then (if ((t262 == 0) != a2) = true then ((num_Not.f t262).bind fun t263 => ((num_Not.f t263).bind fun t264 => (if t264 = t262 then ((num_Not.f a0).bind fun t265 => ((num_Not.f t265).bind fun t266 => (if ((t266 == 0) == (a0 == 0)) = true then (if ((t258 == 1) == (decide (a0 < a1))) = true then (if ((t258 == 0) == (decide (a0 ≥ a1))) = true then (if ((bt260.1 == 1) == (a0 == a1)) = true then (if ((bt260.1 == 0) == (a0 != a1)) = true then ((camshaftlaw01_known.f).bind fun t267 => (some t267)) else (some false)) else (some false)) else (some false)) else (some false)) else (some false)))) else (some false)))) else (some false)) else (some false)))) = some r := H
  have A4 := Aside0.mk A40
  clear A40
  replace H := Option.bind_eq_some_iff.mp H
  obtain ⟨⟨t260, t261⟩, A50, H⟩ := H
  replace H : ((num_Bool.f a2).bind fun t262 => (if ((t262 == 1) == a2) = true then (if ((t262 == 0) != a2) = true then ((num_Not.f t262).bind fun t263 => ((num_Not.f t263).bind fun t264 => (if t264 = t262 then ((num_Not.f a0).bind fun t265 => ((num_Not.f t265).bind fun t266 => (if ((t266 == 0) == (a0 == 0)) = true then (if ((t258 == 1) == (decide (a0 < a1))) = true then (if ((t258 == 0) == (decide (a0 ≥ a1))) = true then (if ((t260 == 1) == (a0 == a1)) = true then (if ((t260 == 0) == (a0 != a1)) = true then ((camshaftlaw01_known.f).bind fun t267 => (some t267)) else (some false)) else (some false)) else (some false)) else (some false)) else (some false)))) else (some false)))) else (some false)) else (some false))) = some r := H
  have A5 := Aside0.mk A50
  clear A50
  replace H := Option.bind_eq_some_iff.mp H
  obtain ⟨t262, A60, H⟩ := H
  replace H : (if ((t262 == 1) == a2) = true then (if ((t262 == 0) != a2) = true then ((num_Not.f t262).bind fun t263 => ((num_Not.f t263).bind fun t264 => (if t264 = t262 then ((num_Not.f a0).bind fun t265 => ((num_Not.f t265).bind fun t266 => (if ((t266 == 0) == (a0 == 0)) = true then (if ((t258 == 1) == (decide (a0 < a1))) = true then (if ((t258 == 0) == (decide (a0 ≥ a1))) = true then (if ((t260 == 1) == (a0 == a1)) = true then (if ((t260 == 0) == (a0 != a1)) = true then ((camshaftlaw01_known.f).bind fun t267 => (some t267)) else (some false)) else (some false)) else (some false)) else (some false)) else (some false)))) else (some false)))) else (some false)) else (some false)) = some r := H
  have A6 := Aside0.mk A60
  clear A60
  by_cases c7 : ((t262 == 1) == a2) = true
  · rw [if_pos c7] at H
    have c7b0 : ((t262 == 1) == a2) = true := c7
    (try (have c7b1 : decide ((t262 == 1) = a2) = true := by simpa using c7))
    (try (have c7b2 : ((t262 == 1) == a2) = true := by simpa using c7))
    clear c7
    by_cases c8 : ((t262 == 0) != a2) = true
    · rw [if_pos c8] at H
      have c8b0 : ((t262 == 0) != a2) = true := c8
      (try (have c8b1 : decide ((t262 == 0) = a2) = false := by simpa using c8))
      (try (have c8b2 : ((t262 == 0) == a2) = false := by simpa using c8))
      (try (have c8b3 : ¬ ((t262 == 0) = a2) := by simpa using c8))
      clear c8
      replace H := Option.bind_eq_some_iff.mp H
      obtain ⟨t263, A90, H⟩ := H
      replace H : ((num_Not.f t263).bind fun t264 => (if t264 = t262 then ((num_Not.f a0).bind fun t265 => ((num_Not.f t265).bind fun t266 => (if ((t266 == 0) == (a0 == 0)) = true then (if ((t258 == 1) == (decide (a0 < a1))) = true then (if ((t258 == 0) == (decide (a0 ≥ a1))) = true then (if ((t260 == 1) == (a0 == a1)) = true then (if ((t260 == 0) == (a0 != a1)) = true then ((camshaftlaw01_known.f).bind fun t267 => (some t267)) else (some false)) else (some false)) else (some false)) else (some false)) else (some false)))) else (some false))) = some r := H
      have A9 := Aside0.mk A90
      clear A90
      replace H := Option.bind_eq_some_iff.mp H
      obtain ⟨t264, A100, H⟩ := H
      replace H : (if t264 = t262 then ((num_Not.f a0).bind fun t265 => ((num_Not.f t265).bind fun t266 => (if ((t266 == 0) == (a0 == 0)) = true then (if ((t258 == 1) == (decide (a0 < a1))) = true then (if ((t258 == 0) == (decide (a0 ≥ a1))) = true then (if ((t260 == 1) == (a0 == a1)) = true then (if ((t260 == 0) == (a0 != a1)) = true then ((camshaftlaw01_known.f).bind fun t267 => (some t267)) else (some false)) else (some false)) else (some false)) else (some false)) else (some false)))) else (some false)) = some r := H
      have A10 := Aside0.mk A100
      clear A100
      by_cases c11 : t264 = t262
      · rw [if_pos c11] at H
        have c11b0 : (t264 == t262) = true := beq_iff_eq.mpr c11
        have c11b1 : (t264 != t262) = false := bne_eq_false_iff_eq.mpr c11
        clear c11
        replace H := Option.bind_eq_some_iff.mp H
        obtain ⟨t265, A120, H⟩ := H
        replace H : ((num_Not.f t265).bind fun t266 => (if ((t266 == 0) == (a0 == 0)) = true then (if ((t258 == 1) == (decide (a0 < a1))) = true then (if ((t258 == 0) == (decide (a0 ≥ a1))) = true then (if ((t260 == 1) == (a0 == a1)) = true then (if ((t260 == 0) == (a0 != a1)) = true then ((camshaftlaw01_known.f).bind fun t267 => (some t267)) else (some false)) else (some false)) else (some false)) else (some false)) else (some false))) = some r := H
        have A12 := Aside0.mk A120
        clear A120
        replace H := Option.bind_eq_some_iff.mp H
        obtain ⟨t266, A130, H⟩ := H
        replace H : (if ((t266 == 0) == (a0 == 0)) = true then (if ((t258 == 1) == (decide (a0 < a1))) = true then (if ((t258 == 0) == (decide (a0 ≥ a1))) = true then (if ((t260 == 1) == (a0 == a1)) = true then (if ((t260 == 0) == (a0 != a1)) = true then ((camshaftlaw01_known.f).bind fun t267 => (some t267)) else (some false)) else (some false)) else (some false)) else (some false)) else (some false)) = some r := H
        have A13 := Aside0.mk A130
        clear A130
        by_cases c14 : ((t266 == 0) == (a0 == 0)) = true
        · rw [if_pos c14] at H
          have c14b0 : ((t266 == 0) == (a0 == 0)) = true := c14
          (try (have c14b1 : decide ((t266 == 0) = (a0 == 0)) = true := by simpa using c14))
          (try (have c14b2 : ((t266 == 0) == (a0 == 0)) = true := by simpa using c14))
          clear c14
          by_cases c15 : ((t258 == 1) == (decide (a0 < a1))) = true
          · rw [if_pos c15] at H
            have c15b0 : ((t258 == 1) == (decide (a0 < a1))) = true := c15
            (try (have c15b1 : decide ((t258 == 1) = (decide (a0 < a1))) = true := by simpa using c15))
            (try (have c15b2 : ((t258 == 1) == (decide (a0 < a1))) = true := by simpa using c15))
            clear c15
            by_cases c16 : ((t258 == 0) == (decide (a0 ≥ a1))) = true
            · rw [if_pos c16] at H
              have c16b0 : ((t258 == 0) == (decide (a0 ≥ a1))) = true := c16
              (try (have c16b1 : decide ((t258 == 0) = (decide (a0 ≥ a1))) = true := by simpa using c16))
              (try (have c16b2 : ((t258 == 0) == (decide (a0 ≥ a1))) = true := by simpa using c16))
              clear c16
              by_cases c17 : ((t260 == 1) == (a0 == a1)) = true
              · rw [if_pos c17] at H
                have c17b0 : ((t260 == 1) == (a0 == a1)) = true := c17
                (try (have c17b1 : decide ((t260 == 1) = (a0 == a1)) = true := by simpa using c17))
                (try (have c17b2 : ((t260 == 1) == (a0 == a1)) = true := by simpa using c17))
                clear c17
                by_cases c18 : ((t260 == 0) == (a0 != a1)) = true
                · rw [if_pos c18] at H
                  have c18b0 : ((t260 == 0) == (a0 != a1)) = true := c18
                  (try (have c18b1 : decide ((t260 == 0) = (a0 != a1)) = true := by simpa using c18))
                  (try (have c18b2 : ((t260 == 0) == (a0 != a1)) = true := by simpa using c18))
                  clear c18
                  replace H := Option.bind_eq_some_iff.mp H
                  obtain ⟨t267, A190, H⟩ := H
                  replace H : (some t267) = some r := H
                  have A19 := Aside0.mk A190
                  clear A190
                  obtain rfl := Option.some.inj H
                  go_enter Try.func10, Try.ntmps10
                  go_wp2_with (first | ((with_reducible refine gate_callee (f := 11) rfl ?_); refine goesL_ (some 15) rfl rfl Try.func11 (by kernel_rfl) rfl #[.int .i64 11, .int .i64 a0, .int .i64 a1] rfl (by (try simp only [List.map_toArray, List.map_cons, List.map_nil]); first | done | rfl | (simp only [List.length_drop, List.length_take]; rfl)) ?_; (with_reducible refine (num_Two.calls 11 a0 a1 t258 t259 _ A4.out).mono ?_); rintro e w20 ⟨rfl, hb⟩; refine ⟨_, rfl, ?_⟩; have n0_ := Aside0.mk (below_step (by repeat (first | (with_reducible first | exact HB.out | apply below_alloc | apply pw_below_drewN | apply below_drew1) | exact HB.out)) hb); clear HB; have HB := n0_; clear n0_; (try clear hb); (try clear hb2); (try clear hk); (try clear hi)) | ((with_reducible refine gate_callee (f := 11) rfl ?_); refine goesL_ (some 21) rfl rfl Try.func11 (by kernel_rfl) rfl #[.int .i64 12, .int .i64 a0, .int .i64 a1] rfl (by (try simp only [List.map_toArray, List.map_cons, List.map_nil]); first | done | rfl | (simp only [List.length_drop, List.length_take]; rfl)) ?_; (with_reducible refine (num_Two.calls 12 a0 a1 t260 t261 _ A5.out).mono ?_); rintro e w21 ⟨rfl, hb⟩; refine ⟨_, rfl, ?_⟩; have n0_ := Aside0.mk (below_step (by repeat (first | (with_reducible first | exact HB.out | apply below_alloc | apply pw_below_drewN | apply below_drew1) | exact HB.out)) hb); clear HB; have HB := n0_; clear n0_; (try clear hb); (try clear hb2); (try clear hk); (try clear hi)) | ((with_reducible refine gate_callee (f := 16) rfl ?_); refine goesL_ (some 25) rfl rfl Try.func16 (by kernel_rfl) rfl #[.bool a2] rfl (by (try simp only [List.map_toArray, List.map_cons, List.map_nil]); first | done | rfl | (simp only [List.length_drop, List.length_take]; rfl)) ?_; (with_reducible refine (num_Bool.calls a2 t262 _ A6.out).mono ?_); rintro e w' ⟨rfl, ⟨nd, rfl⟩⟩; refine ⟨_, rfl, ?_⟩) | (go_at_call 14; (with_reducible refine (num_Not.calls t262 t263 _ A9.out).mono ?_); rintro e w' ⟨rfl, ⟨nd, rfl⟩⟩) | (go_at_call 14; (with_reducible refine (num_Not.calls t263 t264 _ A10.out).mono ?_); rintro e w' ⟨rfl, ⟨nd, rfl⟩⟩) | (go_at_call 14; (with_reducible refine (num_Not.calls a0 t265 _ A12.out).mono ?_); rintro e w' ⟨rfl, ⟨nd, rfl⟩⟩) | (go_at_call 14; (with_reducible refine (num_Not.calls t265 t266 _ A13.out).mono ?_); rintro e w' ⟨rfl, ⟨nd, rfl⟩⟩) | (go_at_call 19; (with_reducible refine (camshaftlaw01_known.calls  t267 _ A19.out).mono ?_); rintro e w22 ⟨rfl, hb⟩; have n0_ := Aside0.mk (below_step (by repeat (first | (with_reducible first | exact HB.out | apply below_alloc | apply pw_below_drewN | apply below_drew1) | exact HB.out)) hb); clear HB; have HB := n0_; clear n0_; (try clear hb); (try clear hb2); (try clear hk); (try clear hi)))
                  go_ret
                  exact ⟨by first | rfl | (simp [errW_none, errW_some] <;> rfl) | (simp [*, errW_none, errW_some] <;> rfl), by repeat (first | (with_reducible first | exact HB.out | apply below_alloc | apply pw_below_drewN | apply below_drew1) | exact HB.out)⟩
                · rw [if_neg c18] at H
                  have c18b0 : ((t260 == 0) == (a0 != a1)) = false := by simpa using c18
                  (try (have c18b1 : decide ((t260 == 0) = (a0 != a1)) = false := by simpa using c18))
                  (try (have c18b2 : ((t260 == 0) == (a0 != a1)) = false := by simpa using c18))
                  (try (have c18b3 : ¬ ((t260 == 0) = (a0 != a1)) := by simpa using c18))
                  clear c18
                  obtain rfl := Option.some.inj H
                  go_enter Try.func10, Try.ntmps10
                  go_wp2_with (first | ((with_reducible refine gate_callee (f := 11) rfl ?_); refine goesL_ (some 15) rfl rfl Try.func11 (by kernel_rfl) rfl #[.int .i64 11, .int .i64 a0, .int .i64 a1] rfl (by (try simp only [List.map_toArray, List.map_cons, List.map_nil]); first | done | rfl | (simp only [List.length_drop, List.length_take]; rfl)) ?_; (with_reducible refine (num_Two.calls 11 a0 a1 t258 t259 _ A4.out).mono ?_); rintro e w23 ⟨rfl, hb⟩; refine ⟨_, rfl, ?_⟩; have n0_ := Aside0.mk (below_step (by repeat (first | (with_reducible first | exact HB.out | apply below_alloc | apply pw_below_drewN | apply below_drew1) | exact HB.out)) hb); clear HB; have HB := n0_; clear n0_; (try clear hb); (try clear hb2); (try clear hk); (try clear hi)) | ((with_reducible refine gate_callee (f := 11) rfl ?_); refine goesL_ (some 21) rfl rfl Try.func11 (by kernel_rfl) rfl #[.int .i64 12, .int .i64 a0, .int .i64 a1] rfl (by (try simp only [List.map_toArray, List.map_cons, List.map_nil]); first | done | rfl | (simp only [List.length_drop, List.length_take]; rfl)) ?_; (with_reducible refine (num_Two.calls 12 a0 a1 t260 t261 _ A5.out).mono ?_); rintro e w24 ⟨rfl, hb⟩; refine ⟨_, rfl, ?_⟩; have n0_ := Aside0.mk (below_step (by repeat (first | (with_reducible first | exact HB.out | apply below_alloc | apply pw_below_drewN | apply below_drew1) | exact HB.out)) hb); clear HB; have HB := n0_; clear n0_; (try clear hb); (try clear hb2); (try clear hk); (try clear hi)) | ((with_reducible refine gate_callee (f := 16) rfl ?_); refine goesL_ (some 25) rfl rfl Try.func16 (by kernel_rfl) rfl #[.bool a2] rfl (by (try simp only [List.map_toArray, List.map_cons, List.map_nil]); first | done | rfl | (simp only [List.length_drop, List.length_take]; rfl)) ?_; (with_reducible refine (num_Bool.calls a2 t262 _ A6.out).mono ?_); rintro e w' ⟨rfl, ⟨nd, rfl⟩⟩; refine ⟨_, rfl, ?_⟩) | (go_at_call 14; (with_reducible refine (num_Not.calls t262 t263 _ A9.out).mono ?_); rintro e w' ⟨rfl, ⟨nd, rfl⟩⟩) | (go_at_call 14; (with_reducible refine (num_Not.calls t263 t264 _ A10.out).mono ?_); rintro e w' ⟨rfl, ⟨nd, rfl⟩⟩) | (go_at_call 14; (with_reducible refine (num_Not.calls a0 t265 _ A12.out).mono ?_); rintro e w' ⟨rfl, ⟨nd, rfl⟩⟩) | (go_at_call 14; (with_reducible refine (num_Not.calls t265 t266 _ A13.out).mono ?_); rintro e w' ⟨rfl, ⟨nd, rfl⟩⟩))
                  go_ret
                  exact ⟨by first | rfl | (simp [errW_none, errW_some] <;> rfl) | (simp [*, errW_none, errW_some] <;> rfl), by repeat (first | (with_reducible first | exact HB.out | apply below_alloc | apply pw_below_drewN | apply below_drew1) | exact HB.out)⟩
              · rw [if_neg c17] at H
                have c17b0 : ((t260 == 1) == (a0 == a1)) = false := by simpa using c17
                (try (have c17b1 : decide ((t260 == 1) = (a0 == a1)) = false := by simpa using c17))
                (try (have c17b2 : ((t260 == 1) == (a0 == a1)) = false := by simpa using c17))
                (try (have c17b3 : ¬ ((t260 == 1) = (a0 == a1)) := by simpa using c17))
                clear c17
                obtain rfl := Option.some.inj H
                go_enter Try.func10, Try.ntmps10
                go_wp2_with (first | ((with_reducible refine gate_callee (f := 11) rfl ?_); refine goesL_ (some 15) rfl rfl Try.func11 (by kernel_rfl) rfl #[.int .i64 11, .int .i64 a0, .int .i64 a1] rfl (by (try simp only [List.map_toArray, List.map_cons, List.map_nil]); first | done | rfl | (simp only [List.length_drop, List.length_take]; rfl)) ?_; (with_reducible refine (num_Two.calls 11 a0 a1 t258 t259 _ A4.out).mono ?_); rintro e w25 ⟨rfl, hb⟩; refine ⟨_, rfl, ?_⟩; have n0_ := Aside0.mk (below_step (by repeat (first | (with_reducible first | exact HB.out | apply below_alloc | apply pw_below_drewN | apply below_drew1) | exact HB.out)) hb); clear HB; have HB := n0_; clear n0_; (try clear hb); (try clear hb2); (try clear hk); (try clear hi)) | ((with_reducible refine gate_callee (f := 11) rfl ?_); refine goesL_ (some 21) rfl rfl Try.func11 (by kernel_rfl) rfl #[.int .i64 12, .int .i64 a0, .int .i64 a1] rfl (by (try simp only [List.map_toArray, List.map_cons, List.map_nil]); first | done | rfl | (simp only [List.length_drop, List.length_take]; rfl)) ?_; (with_reducible refine (num_Two.calls 12 a0 a1 t260 t261 _ A5.out).mono ?_); rintro e w26 ⟨rfl, hb⟩; refine ⟨_, rfl, ?_⟩; have n0_ := Aside0.mk (below_step (by repeat (first | (with_reducible first | exact HB.out | apply below_alloc | apply pw_below_drewN | apply below_drew1) | exact HB.out)) hb); clear HB; have HB := n0_; clear n0_; (try clear hb); (try clear hb2); (try clear hk); (try clear hi)) | ((with_reducible refine gate_callee (f := 16) rfl ?_); refine goesL_ (some 25) rfl rfl Try.func16 (by kernel_rfl) rfl #[.bool a2] rfl (by (try simp only [List.map_toArray, List.map_cons, List.map_nil]); first | done | rfl | (simp only [List.length_drop, List.length_take]; rfl)) ?_; (with_reducible refine (num_Bool.calls a2 t262 _ A6.out).mono ?_); rintro e w' ⟨rfl, ⟨nd, rfl⟩⟩; refine ⟨_, rfl, ?_⟩) | (go_at_call 14; (with_reducible refine (num_Not.calls t262 t263 _ A9.out).mono ?_); rintro e w' ⟨rfl, ⟨nd, rfl⟩⟩) | (go_at_call 14; (with_reducible refine (num_Not.calls t263 t264 _ A10.out).mono ?_); rintro e w' ⟨rfl, ⟨nd, rfl⟩⟩) | (go_at_call 14; (with_reducible refine (num_Not.calls a0 t265 _ A12.out).mono ?_); rintro e w' ⟨rfl, ⟨nd, rfl⟩⟩) | (go_at_call 14; (with_reducible refine (num_Not.calls t265 t266 _ A13.out).mono ?_); rintro e w' ⟨rfl, ⟨nd, rfl⟩⟩))
                go_ret
                exact ⟨by first | rfl | (simp [errW_none, errW_some] <;> rfl) | (simp [*, errW_none, errW_some] <;> rfl), by repeat (first | (with_reducible first | exact HB.out | apply below_alloc | apply pw_below_drewN | apply below_drew1) | exact HB.out)⟩
            · rw [if_neg c16] at H
              have c16b0 : ((t258 == 0) == (decide (a0 ≥ a1))) = false := by simpa using c16
              (try (have c16b1 : decide ((t258 == 0) = (decide (a0 ≥ a1))) = false := by simpa using c16))
              (try (have c16b2 : ((t258 == 0) == (decide (a0 ≥ a1))) = false := by simpa using c16))
              (try (have c16b3 : ¬ ((t258 == 0) = (decide (a0 ≥ a1))) := by simpa using c16))
              clear c16
              obtain rfl := Option.some.inj H
              go_enter Try.func10, Try.ntmps10
              go_wp2_with (first | ((with_reducible refine gate_callee (f := 11) rfl ?_); refine goesL_ (some 15) rfl rfl Try.func11 (by kernel_rfl) rfl #[.int .i64 11, .int .i64 a0, .int .i64 a1] rfl (by (try simp only [List.map_toArray, List.map_cons, List.map_nil]); first | done | rfl | (simp only [List.length_drop, List.length_take]; rfl)) ?_; (with_reducible refine (num_Two.calls 11 a0 a1 t258 t259 _ A4.out).mono ?_); rintro e w27 ⟨rfl, hb⟩; refine ⟨_, rfl, ?_⟩; have n0_ := Aside0.mk (below_step (by repeat (first | (with_reducible first | exact HB.out | apply below_alloc | apply pw_below_drewN | apply below_drew1) | exact HB.out)) hb); clear HB; have HB := n0_; clear n0_; (try clear hb); (try clear hb2); (try clear hk); (try clear hi)) | ((with_reducible refine gate_callee (f := 11) rfl ?_); refine goesL_ (some 21) rfl rfl Try.func11 (by kernel_rfl) rfl #[.int .i64 12, .int .i64 a0, .int .i64 a1] rfl (by (try simp only [List.map_toArray, List.map_cons, List.map_nil]); first | done | rfl | (simp only [List.length_drop, List.length_take]; rfl)) ?_; (with_reducible refine (num_Two.calls 12 a0 a1 t260 t261 _ A5.out).mono ?_); rintro e w28 ⟨rfl, hb⟩; refine ⟨_, rfl, ?_⟩; have n0_ := Aside0.mk (below_step (by repeat (first | (with_reducible first | exact HB.out | apply below_alloc | apply pw_below_drewN | apply below_drew1) | exact HB.out)) hb); clear HB; have HB := n0_; clear n0_; (try clear hb); (try clear hb2); (try clear hk); (try clear hi)) | ((with_reducible refine gate_callee (f := 16) rfl ?_); refine goesL_ (some 25) rfl rfl Try.func16 (by kernel_rfl) rfl #[.bool a2] rfl (by (try simp only [List.map_toArray, List.map_cons, List.map_nil]); first | done | rfl | (simp only [List.length_drop, List.length_take]; rfl)) ?_; (with_reducible refine (num_Bool.calls a2 t262 _ A6.out).mono ?_); rintro e w' ⟨rfl, ⟨nd, rfl⟩⟩; refine ⟨_, rfl, ?_⟩) | (go_at_call 14; (with_reducible refine (num_Not.calls t262 t263 _ A9.out).mono ?_); rintro e w' ⟨rfl, ⟨nd, rfl⟩⟩) | (go_at_call 14; (with_reducible refine (num_Not.calls t263 t264 _ A10.out).mono ?_); rintro e w' ⟨rfl, ⟨nd, rfl⟩⟩) | (go_at_call 14; (with_reducible refine (num_Not.calls a0 t265 _ A12.out).mono ?_); rintro e w' ⟨rfl, ⟨nd, rfl⟩⟩) | (go_at_call 14; (with_reducible refine (num_Not.calls t265 t266 _ A13.out).mono ?_); rintro e w' ⟨rfl, ⟨nd, rfl⟩⟩))
              go_ret
              exact ⟨by first | rfl | (simp [errW_none, errW_some] <;> rfl) | (simp [*, errW_none, errW_some] <;> rfl), by repeat (first | (with_reducible first | exact HB.out | apply below_alloc | apply pw_below_drewN | apply below_drew1) | exact HB.out)⟩
          · rw [if_neg c15] at H
            have c15b0 : ((t258 == 1) == (decide (a0 < a1))) = false := by simpa using c15
            (try (have c15b1 : decide ((t258 == 1) = (decide (a0 < a1))) = false := by simpa using c15))
            (try (have c15b2 : ((t258 == 1) == (decide (a0 < a1))) = false := by simpa using c15))
            (try (have c15b3 : ¬ ((t258 == 1) = (decide (a0 < a1))) := by simpa using c15))
            clear c15
            obtain rfl := Option.some.inj H
            go_enter Try.func10, Try.ntmps10
            go_wp2_with (first | ((with_reducible refine gate_callee (f := 11) rfl ?_); refine goesL_ (some 15) rfl rfl Try.func11 (by kernel_rfl) rfl #[.int .i64 11, .int .i64 a0, .int .i64 a1] rfl (by (try simp only [List.map_toArray, List.map_cons, List.map_nil]); first | done | rfl | (simp only [List.length_drop, List.length_take]; rfl)) ?_; (with_reducible refine (num_Two.calls 11 a0 a1 t258 t259 _ A4.out).mono ?_); rintro e w29 ⟨rfl, hb⟩; refine ⟨_, rfl, ?_⟩; have n0_ := Aside0.mk (below_step (by repeat (first | (with_reducible first | exact HB.out | apply below_alloc | apply pw_below_drewN | apply below_drew1) | exact HB.out)) hb); clear HB; have HB := n0_; clear n0_; (try clear hb); (try clear hb2); (try clear hk); (try clear hi)) | ((with_reducible refine gate_callee (f := 11) rfl ?_); refine goesL_ (some 21) rfl rfl Try.func11 (by kernel_rfl) rfl #[.int .i64 12, .int .i64 a0, .int .i64 a1] rfl (by (try simp only [List.map_toArray, List.map_cons, List.map_nil]); first | done | rfl | (simp only [List.length_drop, List.length_take]; rfl)) ?_; (with_reducible refine (num_Two.calls 12 a0 a1 t260 t261 _ A5.out).mono ?_); rintro e w30 ⟨rfl, hb⟩; refine ⟨_, rfl, ?_⟩; have n0_ := Aside0.mk (below_step (by repeat (first | (with_reducible first | exact HB.out | apply below_alloc | apply pw_below_drewN | apply below_drew1) | exact HB.out)) hb); clear HB; have HB := n0_; clear n0_; (try clear hb); (try clear hb2); (try clear hk); (try clear hi)) | ((with_reducible refine gate_callee (f := 16) rfl ?_); refine goesL_ (some 25) rfl rfl Try.func16 (by kernel_rfl) rfl #[.bool a2] rfl (by (try simp only [List.map_toArray, List.map_cons, List.map_nil]); first | done | rfl | (simp only [List.length_drop, List.length_take]; rfl)) ?_; (with_reducible refine (num_Bool.calls a2 t262 _ A6.out).mono ?_); rintro e w' ⟨rfl, ⟨nd, rfl⟩⟩; refine ⟨_, rfl, ?_⟩) | (go_at_call 14; (with_reducible refine (num_Not.calls t262 t263 _ A9.out).mono ?_); rintro e w' ⟨rfl, ⟨nd, rfl⟩⟩) | (go_at_call 14; (with_reducible refine (num_Not.calls t263 t264 _ A10.out).mono ?_); rintro e w' ⟨rfl, ⟨nd, rfl⟩⟩) | (go_at_call 14; (with_reducible refine (num_Not.calls a0 t265 _ A12.out).mono ?_); rintro e w' ⟨rfl, ⟨nd, rfl⟩⟩) | (go_at_call 14; (with_reducible refine (num_Not.calls t265 t266 _ A13.out).mono ?_); rintro e w' ⟨rfl, ⟨nd, rfl⟩⟩))
            go_ret
            exact ⟨by first | rfl | (simp [errW_none, errW_some] <;> rfl) | (simp [*, errW_none, errW_some] <;> rfl), by repeat (first | (with_reducible first | exact HB.out | apply below_alloc | apply pw_below_drewN | apply below_drew1) | exact HB.out)⟩
        · rw [if_neg c14] at H
          have c14b0 : ((t266 == 0) == (a0 == 0)) = false := by simpa using c14
          (try (have c14b1 : decide ((t266 == 0) = (a0 == 0)) = false := by simpa using c14))
          (try (have c14b2 : ((t266 == 0) == (a0 == 0)) = false := by simpa using c14))
          (try (have c14b3 : ¬ ((t266 == 0) = (a0 == 0)) := by simpa using c14))
          clear c14
          obtain rfl := Option.some.inj H
          go_enter Try.func10, Try.ntmps10
          go_wp2_with (first | ((with_reducible refine gate_callee (f := 11) rfl ?_); refine goesL_ (some 15) rfl rfl Try.func11 (by kernel_rfl) rfl #[.int .i64 11, .int .i64 a0, .int .i64 a1] rfl (by (try simp only [List.map_toArray, List.map_cons, List.map_nil]); first | done | rfl | (simp only [List.length_drop, List.length_take]; rfl)) ?_; (with_reducible refine (num_Two.calls 11 a0 a1 t258 t259 _ A4.out).mono ?_); rintro e w31 ⟨rfl, hb⟩; refine ⟨_, rfl, ?_⟩; have n0_ := Aside0.mk (below_step (by repeat (first | (with_reducible first | exact HB.out | apply below_alloc | apply pw_below_drewN | apply below_drew1) | exact HB.out)) hb); clear HB; have HB := n0_; clear n0_; (try clear hb); (try clear hb2); (try clear hk); (try clear hi)) | ((with_reducible refine gate_callee (f := 11) rfl ?_); refine goesL_ (some 21) rfl rfl Try.func11 (by kernel_rfl) rfl #[.int .i64 12, .int .i64 a0, .int .i64 a1] rfl (by (try simp only [List.map_toArray, List.map_cons, List.map_nil]); first | done | rfl | (simp only [List.length_drop, List.length_take]; rfl)) ?_; (with_reducible refine (num_Two.calls 12 a0 a1 t260 t261 _ A5.out).mono ?_); rintro e w32 ⟨rfl, hb⟩; refine ⟨_, rfl, ?_⟩; have n0_ := Aside0.mk (below_step (by repeat (first | (with_reducible first | exact HB.out | apply below_alloc | apply pw_below_drewN | apply below_drew1) | exact HB.out)) hb); clear HB; have HB := n0_; clear n0_; (try clear hb); (try clear hb2); (try clear hk); (try clear hi)) | ((with_reducible refine gate_callee (f := 16) rfl ?_); refine goesL_ (some 25) rfl rfl Try.func16 (by kernel_rfl) rfl #[.bool a2] rfl (by (try simp only [List.map_toArray, List.map_cons, List.map_nil]); first | done | rfl | (simp only [List.length_drop, List.length_take]; rfl)) ?_; (with_reducible refine (num_Bool.calls a2 t262 _ A6.out).mono ?_); rintro e w' ⟨rfl, ⟨nd, rfl⟩⟩; refine ⟨_, rfl, ?_⟩) | (go_at_call 14; (with_reducible refine (num_Not.calls t262 t263 _ A9.out).mono ?_); rintro e w' ⟨rfl, ⟨nd, rfl⟩⟩) | (go_at_call 14; (with_reducible refine (num_Not.calls t263 t264 _ A10.out).mono ?_); rintro e w' ⟨rfl, ⟨nd, rfl⟩⟩) | (go_at_call 14; (with_reducible refine (num_Not.calls a0 t265 _ A12.out).mono ?_); rintro e w' ⟨rfl, ⟨nd, rfl⟩⟩) | (go_at_call 14; (with_reducible refine (num_Not.calls t265 t266 _ A13.out).mono ?_); rintro e w' ⟨rfl, ⟨nd, rfl⟩⟩))
          go_ret
          exact ⟨by first | rfl | (simp [errW_none, errW_some] <;> rfl) | (simp [*, errW_none, errW_some] <;> rfl), by repeat (first | (with_reducible first | exact HB.out | apply below_alloc | apply pw_below_drewN | apply below_drew1) | exact HB.out)⟩
      · rw [if_neg c11] at H
        have c11b0 : (t264 == t262) = false := beq_eq_false_iff_ne.mpr c11
        have c11b1 : (t264 != t262) = true := bne_iff_ne.mpr c11
        obtain rfl := Option.some.inj H
        go_enter Try.func10, Try.ntmps10
        go_wp2_with (first | ((with_reducible refine gate_callee (f := 11) rfl ?_); refine goesL_ (some 15) rfl rfl Try.func11 (by kernel_rfl) rfl #[.int .i64 11, .int .i64 a0, .int .i64 a1] rfl (by (try simp only [List.map_toArray, List.map_cons, List.map_nil]); first | done | rfl | (simp only [List.length_drop, List.length_take]; rfl)) ?_; (with_reducible refine (num_Two.calls 11 a0 a1 t258 t259 _ A4.out).mono ?_); rintro e w33 ⟨rfl, hb⟩; refine ⟨_, rfl, ?_⟩; have n0_ := Aside0.mk (below_step (by repeat (first | (with_reducible first | exact HB.out | apply below_alloc | apply pw_below_drewN | apply below_drew1) | exact HB.out)) hb); clear HB; have HB := n0_; clear n0_; (try clear hb); (try clear hb2); (try clear hk); (try clear hi)) | ((with_reducible refine gate_callee (f := 11) rfl ?_); refine goesL_ (some 21) rfl rfl Try.func11 (by kernel_rfl) rfl #[.int .i64 12, .int .i64 a0, .int .i64 a1] rfl (by (try simp only [List.map_toArray, List.map_cons, List.map_nil]); first | done | rfl | (simp only [List.length_drop, List.length_take]; rfl)) ?_; (with_reducible refine (num_Two.calls 12 a0 a1 t260 t261 _ A5.out).mono ?_); rintro e w34 ⟨rfl, hb⟩; refine ⟨_, rfl, ?_⟩; have n0_ := Aside0.mk (below_step (by repeat (first | (with_reducible first | exact HB.out | apply below_alloc | apply pw_below_drewN | apply below_drew1) | exact HB.out)) hb); clear HB; have HB := n0_; clear n0_; (try clear hb); (try clear hb2); (try clear hk); (try clear hi)) | ((with_reducible refine gate_callee (f := 16) rfl ?_); refine goesL_ (some 25) rfl rfl Try.func16 (by kernel_rfl) rfl #[.bool a2] rfl (by (try simp only [List.map_toArray, List.map_cons, List.map_nil]); first | done | rfl | (simp only [List.length_drop, List.length_take]; rfl)) ?_; (with_reducible refine (num_Bool.calls a2 t262 _ A6.out).mono ?_); rintro e w' ⟨rfl, ⟨nd, rfl⟩⟩; refine ⟨_, rfl, ?_⟩) | (go_at_call 14; (with_reducible refine (num_Not.calls t262 t263 _ A9.out).mono ?_); rintro e w' ⟨rfl, ⟨nd, rfl⟩⟩) | (go_at_call 14; (with_reducible refine (num_Not.calls t263 t264 _ A10.out).mono ?_); rintro e w' ⟨rfl, ⟨nd, rfl⟩⟩))
        go_ret
        exact ⟨by first | rfl | (simp [errW_none, errW_some] <;> rfl) | (simp [*, errW_none, errW_some] <;> rfl), by repeat (first | (with_reducible first | exact HB.out | apply below_alloc | apply pw_below_drewN | apply below_drew1) | exact HB.out)⟩
    · rw [if_neg c8] at H
      have c8b0 : ((t262 == 0) != a2) = false := by simpa using c8
      (try (have c8b1 : decide ((t262 == 0) = a2) = true := by simpa using c8))
      (try (have c8b2 : ((t262 == 0) == a2) = true := by simpa using c8))
      clear c8
      obtain rfl := Option.some.inj H
      go_enter Try.func10, Try.ntmps10
      go_wp2_with (first | ((with_reducible refine gate_callee (f := 11) rfl ?_); refine goesL_ (some 15) rfl rfl Try.func11 (by kernel_rfl) rfl #[.int .i64 11, .int .i64 a0, .int .i64 a1] rfl (by (try simp only [List.map_toArray, List.map_cons, List.map_nil]); first | done | rfl | (simp only [List.length_drop, List.length_take]; rfl)) ?_; (with_reducible refine (num_Two.calls 11 a0 a1 t258 t259 _ A4.out).mono ?_); rintro e w35 ⟨rfl, hb⟩; refine ⟨_, rfl, ?_⟩; have n0_ := Aside0.mk (below_step (by repeat (first | (with_reducible first | exact HB.out | apply below_alloc | apply pw_below_drewN | apply below_drew1) | exact HB.out)) hb); clear HB; have HB := n0_; clear n0_; (try clear hb); (try clear hb2); (try clear hk); (try clear hi)) | ((with_reducible refine gate_callee (f := 11) rfl ?_); refine goesL_ (some 21) rfl rfl Try.func11 (by kernel_rfl) rfl #[.int .i64 12, .int .i64 a0, .int .i64 a1] rfl (by (try simp only [List.map_toArray, List.map_cons, List.map_nil]); first | done | rfl | (simp only [List.length_drop, List.length_take]; rfl)) ?_; (with_reducible refine (num_Two.calls 12 a0 a1 t260 t261 _ A5.out).mono ?_); rintro e w36 ⟨rfl, hb⟩; refine ⟨_, rfl, ?_⟩; have n0_ := Aside0.mk (below_step (by repeat (first | (with_reducible first | exact HB.out | apply below_alloc | apply pw_below_drewN | apply below_drew1) | exact HB.out)) hb); clear HB; have HB := n0_; clear n0_; (try clear hb); (try clear hb2); (try clear hk); (try clear hi)) | ((with_reducible refine gate_callee (f := 16) rfl ?_); refine goesL_ (some 25) rfl rfl Try.func16 (by kernel_rfl) rfl #[.bool a2] rfl (by (try simp only [List.map_toArray, List.map_cons, List.map_nil]); first | done | rfl | (simp only [List.length_drop, List.length_take]; rfl)) ?_; (with_reducible refine (num_Bool.calls a2 t262 _ A6.out).mono ?_); rintro e w' ⟨rfl, ⟨nd, rfl⟩⟩; refine ⟨_, rfl, ?_⟩))
      go_ret
      exact ⟨by first | rfl | (simp [errW_none, errW_some] <;> rfl) | (simp [*, errW_none, errW_some] <;> rfl), by repeat (first | (with_reducible first | exact HB.out | apply below_alloc | apply pw_below_drewN | apply below_drew1) | exact HB.out)⟩
  · rw [if_neg c7] at H
    have c7b0 : ((t262 == 1) == a2) = false := by simpa using c7
    (try (have c7b1 : decide ((t262 == 1) = a2) = false := by simpa using c7))
    (try (have c7b2 : ((t262 == 1) == a2) = false := by simpa using c7))
    (try (have c7b3 : ¬ ((t262 == 1) = a2) := by simpa using c7))
    clear c7
    obtain rfl := Option.some.inj H
    go_enter Try.func10, Try.ntmps10
    go_wp2_with (first | ((with_reducible refine gate_callee (f := 11) rfl ?_); refine goesL_ (some 15) rfl rfl Try.func11 (by kernel_rfl) rfl #[.int .i64 11, .int .i64 a0, .int .i64 a1] rfl (by (try simp only [List.map_toArray, List.map_cons, List.map_nil]); first | done | rfl | (simp only [List.length_drop, List.length_take]; rfl)) ?_; (with_reducible refine (num_Two.calls 11 a0 a1 t258 t259 _ A4.out).mono ?_); rintro e w37 ⟨rfl, hb⟩; refine ⟨_, rfl, ?_⟩; have n0_ := Aside0.mk (below_step (by repeat (first | (with_reducible first | exact HB.out | apply below_alloc | apply pw_below_drewN | apply below_drew1) | exact HB.out)) hb); clear HB; have HB := n0_; clear n0_; (try clear hb); (try clear hb2); (try clear hk); (try clear hi)) | ((with_reducible refine gate_callee (f := 11) rfl ?_); refine goesL_ (some 21) rfl rfl Try.func11 (by kernel_rfl) rfl #[.int .i64 12, .int .i64 a0, .int .i64 a1] rfl (by (try simp only [List.map_toArray, List.map_cons, List.map_nil]); first | done | rfl | (simp only [List.length_drop, List.length_take]; rfl)) ?_; (with_reducible refine (num_Two.calls 12 a0 a1 t260 t261 _ A5.out).mono ?_); rintro e w38 ⟨rfl, hb⟩; refine ⟨_, rfl, ?_⟩; have n0_ := Aside0.mk (below_step (by repeat (first | (with_reducible first | exact HB.out | apply below_alloc | apply pw_below_drewN | apply below_drew1) | exact HB.out)) hb); clear HB; have HB := n0_; clear n0_; (try clear hb); (try clear hb2); (try clear hk); (try clear hi)) | ((with_reducible refine gate_callee (f := 16) rfl ?_); refine goesL_ (some 25) rfl rfl Try.func16 (by kernel_rfl) rfl #[.bool a2] rfl (by (try simp only [List.map_toArray, List.map_cons, List.map_nil]); first | done | rfl | (simp only [List.length_drop, List.length_take]; rfl)) ?_; (with_reducible refine (num_Bool.calls a2 t262 _ A6.out).mono ?_); rintro e w' ⟨rfl, ⟨nd, rfl⟩⟩; refine ⟨_, rfl, ?_⟩))
    go_ret
    exact ⟨by first | rfl | (simp [errW_none, errW_some] <;> rfl) | (simp [*, errW_none, errW_some] <;> rfl), by repeat (first | (with_reducible first | exact HB.out | apply below_alloc | apply pw_below_drewN | apply below_drew1) | exact HB.out)⟩

/-- THE ONE PURE STATEMENT of camshaftlaw01_NumNots: yours. -/
def camshaftlaw01_NumNots.Pure : Prop := ∀ (a0 : Int) (a1 : Int) (a2 : Bool), (Lit.int .i64 a0).wf = true → (Lit.int .i64 a1).wf = true → camshaftlaw01_NumNots.f a0 a1 a2 = some true
theorem camshaftlaw01_NumNots.walk (P : camshaftlaw01_NumNots.Pure) (a0 : Int) (a1 : Int) (a2 : Bool) (w : World) (w0 : (Lit.int .i64 a0).wf = true) (w1 : (Lit.int .i64 a1).wf = true) :
    Calls Try.prog 10 #[.int .i64 a0, .int .i64 a1, .bool a2] w fun e w' => e = .returned (.bool true) ∧ Below w.heap.size w w' := by
  have h := P a0 a1 a2 w0 w1
  refine (camshaftlaw01_NumNots.calls a0 a1 a2 true w h).mono ?_
  rintro e w' ⟨rfl, hd⟩
  exact ⟨rfl, hd⟩

end Go.Proofs.Ytbbfcfpbdgibaaa.Print
