/- WRITTEN BY A PROGRAM OF THE SESSION out of the translation: functions in plain Lean, and that the calls come to just these answers; Lean checks every line. -/
import Derived.Test.YtdkagkoglefncaaPrint0
import Derived.Test.YtdkagkoglefncaaPrint1
import Derived.Test.YtdkagkoglefncaaPrint4
import Derived.Test.YtdkagkoglefncaaPrint5
import Derived.Test.YtdkagkoglefncaaPrint7
namespace Go.Proofs.Ytdkagkoglefncaa.Print
open Go.RowKit Go.Proofs.YtdkagkoglefncaaW.PrintWords Go.Proofs.YtdkagkoglefncaaW.PrintLast Go.Proofs.YtdkagkoglefncaaW.PrintMore
attribute [local go_sem] max2_int min2_int max_two min_two max_three min_three max_four min_four   -- for this text's walks alone
set_option linter.unusedVariables false
set_option linter.unusedSimpArgs false

/-! ### camshaftlaw10_NatCeils: function 5 -/
mutual
def camshaftlaw10_NatCeils.j0 : Nat → Int → Int → Int → Int → Bool → Option (Bool)
  | 0, _, _, _, _, _ => none
  | k + 1, x0, x1, x5, x6, x28 => if x28 = true then (if x6 = 1 then (if x5 = 0 then ((camshaftlaw10_known.f).bind fun t180 => (some t180)) else (some false)) else (some false)) else ((nat_Mul.f k x5 x1).bind fun bt181 => (if x6 = 0 then (if bt181.2 = 0 then (if bt181.1 < x0 then (camshaftlaw10_NatCeils.j1 k x0 x1 x5 true) else (if x5 > 0 then (if (wrap64 (x1 * (wrap64 (x5 - 1)))) ≥ x0 then (camshaftlaw10_NatCeils.j1 k x0 x1 x5 true) else (camshaftlaw10_NatCeils.j1 k x0 x1 x5 (decide (x5 < 0)))) else (camshaftlaw10_NatCeils.j1 k x0 x1 x5 (decide (x5 < 0))))) else (if x5 > 0 then (if (wrap64 (x1 * (wrap64 (x5 - 1)))) ≥ x0 then (camshaftlaw10_NatCeils.j1 k x0 x1 x5 true) else (camshaftlaw10_NatCeils.j1 k x0 x1 x5 (decide (x5 < 0)))) else (camshaftlaw10_NatCeils.j1 k x0 x1 x5 (decide (x5 < 0))))) else (camshaftlaw10_NatCeils.j1 k x0 x1 x5 true)))
def camshaftlaw10_NatCeils.j1 : Nat → Int → Int → Int → Bool → Option (Bool)
  | 0, _, _, _, _ => none
  | k + 1, x0, x1, x5, x70 => if x70 = true then (some false) else ((nat_Ceil.f k (wrap64 (x0 + 1)) x1).bind fun bt183 => (if bt183.2 = 0 then (if bt183.1 ≥ x5 then (if bt183.1 ≤ (wrap64 (x5 + 1)) then ((camshaftlaw10_known.f).bind fun t185 => (some t185)) else (some false)) else (some false)) else ((camshaftlaw10_known.f).bind fun t186 => (some t186))))
end
def camshaftlaw10_NatCeils.f (k : Nat) (a0 : Int) (a1 : Int) : Option (Bool) := (nat_Ceil.f k a0 a1).bind fun bt176 => ((nat_Right.f a0).bind fun t178 => (if t178 = true then ((nat_Right.f a1).bind fun t179 => (if t179 = true then (camshaftlaw10_NatCeils.j0 k a0 a1 bt176.1 bt176.2 (a1 == 0)) else (camshaftlaw10_NatCeils.j0 k a0 a1 bt176.1 bt176.2 true))) else (camshaftlaw10_NatCeils.j0 k a0 a1 bt176.1 bt176.2 true)))
theorem camshaftlaw10_NatCeils.mono_l : ∀ k, (∀ y0 y1 y2 y3 y4, LeO (camshaftlaw10_NatCeils.j0 k y0 y1 y2 y3 y4) (camshaftlaw10_NatCeils.j0 (k + 1) y0 y1 y2 y3 y4)) ∧ (∀ y0 y1 y2 y3, LeO (camshaftlaw10_NatCeils.j1 k y0 y1 y2 y3) (camshaftlaw10_NatCeils.j1 (k + 1) y0 y1 y2 y3))
  | 0 => ⟨fun _ _ _ _ _ r h => by simp [camshaftlaw10_NatCeils.j0] at h, fun _ _ _ _ r h => by simp [camshaftlaw10_NatCeils.j1] at h⟩
  | k + 1 => by
    obtain ⟨ih0, ih1⟩ := camshaftlaw10_NatCeils.mono_l k
    refine ⟨?_, ?_⟩
    · intro y0 y1 y2 y3 y4
      unfold camshaftlaw10_NatCeils.j0
      repeat' first
      | (with_reducible exact ih0 _ _ _ _ _)
      | (with_reducible exact ih1 _ _ _ _)
      | (with_reducible exact nat_Ceil.mono _ _ _)
      | (with_reducible exact nat_Mul.mono _ _ _)
      | (with_reducible exact LeO.refl _)
      | (with_reducible exact LeO.none _)
      | (with_reducible refine LeO.ite ?_ ?_)
      | (with_reducible refine LeO.bind ?_ (fun _ => ?_))
      | exact ih0 _ _ _ _ _
      | exact ih1 _ _ _ _
      | exact nat_Ceil.mono _ _ _
      | exact nat_Mul.mono _ _ _
      | exact LeO.none _
      | refine LeO.ite ?_ ?_
      | refine LeO.bind ?_ (fun _ => ?_)
    · intro y0 y1 y2 y3
      unfold camshaftlaw10_NatCeils.j1
      repeat' first
      | (with_reducible exact ih0 _ _ _ _ _)
      | (with_reducible exact ih1 _ _ _ _)
      | (with_reducible exact nat_Ceil.mono _ _ _)
      | (with_reducible exact nat_Mul.mono _ _ _)
      | (with_reducible exact LeO.refl _)
      | (with_reducible exact LeO.none _)
      | (with_reducible refine LeO.ite ?_ ?_)
      | (with_reducible refine LeO.bind ?_ (fun _ => ?_))
      | exact ih0 _ _ _ _ _
      | exact ih1 _ _ _ _
      | exact nat_Ceil.mono _ _ _
      | exact nat_Mul.mono _ _ _
      | exact LeO.none _
      | refine LeO.ite ?_ ?_
      | refine LeO.bind ?_ (fun _ => ?_)
theorem camshaftlaw10_NatCeils.mono : ∀ a0 a1 k, LeO (camshaftlaw10_NatCeils.f k a0 a1) (camshaftlaw10_NatCeils.f (k + 1) a0 a1) := by
  intro a0 a1 k
  obtain ⟨ih0, ih1⟩ := camshaftlaw10_NatCeils.mono_l k
  unfold camshaftlaw10_NatCeils.f
  repeat' first
      | (with_reducible exact ih0 _ _ _ _ _)
      | (with_reducible exact ih1 _ _ _ _)
      | (with_reducible exact nat_Ceil.mono _ _ _)
      | (with_reducible exact nat_Mul.mono _ _ _)
      | (with_reducible exact LeO.refl _)
      | (with_reducible exact LeO.none _)
      | (with_reducible refine LeO.ite ?_ ?_)
      | (with_reducible refine LeO.bind ?_ (fun _ => ?_))
      | exact ih0 _ _ _ _ _
      | exact ih1 _ _ _ _
      | exact nat_Ceil.mono _ _ _
      | exact nat_Mul.mono _ _ _
      | exact LeO.none _
      | refine LeO.ite ?_ ?_
      | refine LeO.bind ?_ (fun _ => ?_)
set_option maxHeartbeats 8000000 in
set_option maxRecDepth 100000 in
theorem camshaftlaw10_NatCeils.calls (k : Nat) (a0 : Int) (a1 : Int) (r : Bool) (w : World) (h : camshaftlaw10_NatCeils.f k a0 a1 = some r) :
    Calls Try.prog 5 #[.int .i64 a0, .int .i64 a1] w fun e w' => e = .returned (.bool r) ∧ Below w.heap.size w w' := by
  have HB := Aside0.mk (Below.refl w.heap.size w)
  have H : ((nat_Ceil.f k a0 a1).bind fun bt176 => ((nat_Right.f a0).bind fun t178 => (if t178 = true then ((nat_Right.f a1).bind fun t179 => (if t179 = true then (camshaftlaw10_NatCeils.j0 k a0 a1 bt176.1 bt176.2 (a1 == 0)) else (camshaftlaw10_NatCeils.j0 k a0 a1 bt176.1 bt176.2 true))) else (camshaftlaw10_NatCeils.j0 k a0 a1 bt176.1 bt176.2 true)))) = some r := h
  clear h
  replace H := Option.bind_eq_some_iff.mp H
  obtain ⟨⟨t176, t177⟩, A30, H⟩ := H
  replace H : ((nat_Right.f a0).bind fun t178 => (if t178 = true then ((nat_Right.f a1).bind fun t179 => (if t179 = true then (camshaftlaw10_NatCeils.j0 k a0 a1 t176 t177 (a1 == 0)) else (camshaftlaw10_NatCeils.j0 k a0 a1 t176 t177 true))) else (camshaftlaw10_NatCeils.j0 k a0 a1 t176 t177 true))) = some r := H
  have A3 := Aside0.mk A30
  clear A30
  have HC4 := Aside0.mk H
  clear H
  go_enter Try.func5, Try.ntmps5
  go_upto_region 2 with (first | ((with_reducible refine gate_callee (f := 15) rfl ?_); refine goesL_ (some 14) rfl rfl Try.func15 (by kernel_rfl) rfl #[.int .i64 a0, .int .i64 a1] rfl (by (try simp only [List.map_toArray, List.map_cons, List.map_nil]); first | done | rfl | (simp only [List.length_drop, List.length_take]; rfl)) ?_; (with_reducible refine (nat_Ceil.calls k a0 a1 t176 t177 _ A3.out).mono ?_); rintro e w' ⟨rfl, ⟨nd, rfl⟩⟩; refine ⟨_, rfl, ?_⟩))
  (try simp only [Act.put, List.setIfInBounds_toArray, List.set_cons_zero, List.set_cons_succ])
  go_cut [28] (fun v28 wc => ∃ (kq : Nat) (x28_3 : Bool), v28 = .bool x28_3 ∧ Aside0 (camshaftlaw10_NatCeils.j0 kq a0 a1 t176 t177 x28_3 = some r) ∧ Aside0 (kq ≤ k) ∧ Aside0 (Below w.heap.size w wc))
  case first =>
    have H := HC4.out
    clear HC4
    replace H := Option.bind_eq_some_iff.mp H
    obtain ⟨t178, A50, H⟩ := H
    replace H : (if t178 = true then ((nat_Right.f a1).bind fun t179 => (if t179 = true then (camshaftlaw10_NatCeils.j0 k a0 a1 t176 t177 (a1 == 0)) else (camshaftlaw10_NatCeils.j0 k a0 a1 t176 t177 true))) else (camshaftlaw10_NatCeils.j0 k a0 a1 t176 t177 true)) = some r := H
    have A5 := Aside0.mk A50
    clear A50
    by_cases c6 : t178 = true
    · subst c6
      have H1 : ((nat_Right.f a1).bind fun t179 => (if t179 = true then (camshaftlaw10_NatCeils.j0 k a0 a1 t176 t177 (a1 == 0)) else (camshaftlaw10_NatCeils.j0 k a0 a1 t176 t177 true))) = some r := by rw [if_pos rfl] at H; exact H
      clear H
      have H := H1
      clear H1
      replace H := Option.bind_eq_some_iff.mp H
      obtain ⟨t179, A70, H⟩ := H
      replace H : (if t179 = true then (camshaftlaw10_NatCeils.j0 k a0 a1 t176 t177 (a1 == 0)) else (camshaftlaw10_NatCeils.j0 k a0 a1 t176 t177 true)) = some r := H
      have A7 := Aside0.mk A70
      clear A70
      by_cases c8 : t179 = true
      · subst c8
        have H1 : (camshaftlaw10_NatCeils.j0 k a0 a1 t176 t177 (a1 == 0)) = some r := by rw [if_pos rfl] at H; exact H
        clear H
        have H := H1
        clear H1
        have H' := Aside0.mk H
        clear H
        go_wp2_with (first | ((with_reducible refine gate_callee (f := 17) rfl ?_); refine goesL_ (some 18) rfl rfl Try.func17 (by kernel_rfl) rfl #[.int .i64 a0] rfl (by (try simp only [List.map_toArray, List.map_cons, List.map_nil]); first | done | rfl | (simp only [List.length_drop, List.length_take]; rfl)) ?_; (with_reducible refine (nat_Right.calls a0 true _ A5.out).mono ?_); rintro e w' ⟨rfl, ⟨nd, rfl⟩⟩; refine ⟨_, rfl, ?_⟩) | (go_at_call 17; (with_reducible refine (nat_Right.calls a1 true _ A7.out).mono ?_); rintro e w' ⟨rfl, ⟨nd, rfl⟩⟩))
        go_meet
        case rel => exact ⟨_, ((a1 == 0)), (by first | rfl | (simp; done) | (simp [*]; done)), H', ⟨by first | omega | exact Nat.le_refl _⟩, ⟨by repeat (first | (with_reducible first | exact HB.out | apply below_alloc | apply pw_below_drewN | apply below_drew1) | exact HB.out)⟩⟩
      · replace c8 := Bool.eq_false_iff.mpr c8
        subst c8
        have H1 : (camshaftlaw10_NatCeils.j0 k a0 a1 t176 t177 true) = some r := by rw [if_neg (show ¬ (false = true) by decide)] at H; exact H
        clear H
        have H := H1
        clear H1
        have H' := Aside0.mk H
        clear H
        go_wp2_with (first | ((with_reducible refine gate_callee (f := 17) rfl ?_); refine goesL_ (some 18) rfl rfl Try.func17 (by kernel_rfl) rfl #[.int .i64 a0] rfl (by (try simp only [List.map_toArray, List.map_cons, List.map_nil]); first | done | rfl | (simp only [List.length_drop, List.length_take]; rfl)) ?_; (with_reducible refine (nat_Right.calls a0 true _ A5.out).mono ?_); rintro e w' ⟨rfl, ⟨nd, rfl⟩⟩; refine ⟨_, rfl, ?_⟩) | (go_at_call 17; (with_reducible refine (nat_Right.calls a1 false _ A7.out).mono ?_); rintro e w' ⟨rfl, ⟨nd, rfl⟩⟩))
        go_meet
        case rel => exact ⟨_, (true), (by first | rfl | (simp; done) | (simp [*]; done)), H', ⟨by first | omega | exact Nat.le_refl _⟩, ⟨by repeat (first | (with_reducible first | exact HB.out | apply below_alloc | apply pw_below_drewN | apply below_drew1) | exact HB.out)⟩⟩
    · replace c6 := Bool.eq_false_iff.mpr c6
      subst c6
      have H1 : (camshaftlaw10_NatCeils.j0 k a0 a1 t176 t177 true) = some r := by rw [if_neg (show ¬ (false = true) by decide)] at H; exact H
      clear H
      have H := H1
      clear H1
      have H' := Aside0.mk H
      clear H
      go_wp2_with (first | ((with_reducible refine gate_callee (f := 17) rfl ?_); refine goesL_ (some 18) rfl rfl Try.func17 (by kernel_rfl) rfl #[.int .i64 a0] rfl (by (try simp only [List.map_toArray, List.map_cons, List.map_nil]); first | done | rfl | (simp only [List.length_drop, List.length_take]; rfl)) ?_; (with_reducible refine (nat_Right.calls a0 false _ A5.out).mono ?_); rintro e w' ⟨rfl, ⟨nd, rfl⟩⟩; refine ⟨_, rfl, ?_⟩))
      go_meet
      case rel => exact ⟨_, (true), (by first | rfl | (simp; done) | (simp [*]; done)), H', ⟨by first | omega | exact Nat.le_refl _⟩, ⟨by repeat (first | (with_reducible first | exact HB.out | apply below_alloc | apply pw_below_drewN | apply below_drew1) | exact HB.out)⟩⟩
  case rest =>
    clear HC4
    try clear c1
    try clear p2
    try clear c5
    try clear c6
    try clear c8
    obtain ⟨kq, x28_3, rfl, HA, HJ3, HB⟩ := hcut
    cases kq with
    | zero => exact absurd HA.out (by simp [camshaftlaw10_NatCeils.j0])
    | succ kj3 =>
      have H := HA.out
      clear HA
      simp only [camshaftlaw10_NatCeils.j0] at H
      by_cases c9 : x28_3 = true
      · subst c9
        have H1 : (if t177 = 1 then (if t176 = 0 then ((camshaftlaw10_known.f).bind fun t180 => (some t180)) else (some false)) else (some false)) = some r := by rw [if_pos rfl] at H; exact H
        clear H
        have H := H1
        clear H1
        by_cases c10 : t177 = 1
        · rw [if_pos c10] at H
          have c10b0 : (t177 == 1) = true := beq_iff_eq.mpr c10
          have c10b1 : (t177 != 1) = false := bne_eq_false_iff_eq.mpr c10
          clear c10
          by_cases c11 : t176 = 0
          · rw [if_pos c11] at H
            have c11b0 : (t176 == 0) = true := beq_iff_eq.mpr c11
            have c11b1 : (t176 != 0) = false := bne_eq_false_iff_eq.mpr c11
            clear c11
            replace H := Option.bind_eq_some_iff.mp H
            obtain ⟨t180, A120, H⟩ := H
            replace H : (some t180) = some r := H
            have A12 := Aside0.mk A120
            clear A120
            obtain rfl := Option.some.inj H
            go_wp2_with (first | (go_at_call 10; (with_reducible refine (camshaftlaw10_known.calls  t180 _ A12.out).mono ?_); rintro e w13 ⟨rfl, hb⟩; have n0_ := Aside0.mk (below_step (by repeat (first | (with_reducible first | exact HB.out | apply below_alloc | apply pw_below_drewN | apply below_drew1) | exact HB.out)) hb); clear HB; have HB := n0_; clear n0_; (try clear hb); (try clear hb2); (try clear hk); (try clear hi)))
            go_ret
            exact ⟨by first | rfl | (simp [errW_none, errW_some] <;> rfl) | (simp [*, errW_none, errW_some] <;> rfl), by repeat (first | (with_reducible first | exact HB.out | apply below_alloc | apply pw_below_drewN | apply below_drew1) | exact HB.out)⟩
          · rw [if_neg c11] at H
            have c11b0 : (t176 == 0) = false := beq_eq_false_iff_ne.mpr c11
            have c11b1 : (t176 != 0) = true := bne_iff_ne.mpr c11
            obtain rfl := Option.some.inj H
            go_wp2
            go_ret
            exact ⟨by first | rfl | (simp [errW_none, errW_some] <;> rfl) | (simp [*, errW_none, errW_some] <;> rfl), by repeat (first | (with_reducible first | exact HB.out | apply below_alloc | apply pw_below_drewN | apply below_drew1) | exact HB.out)⟩
        · rw [if_neg c10] at H
          have c10b0 : (t177 == 1) = false := beq_eq_false_iff_ne.mpr c10
          have c10b1 : (t177 != 1) = true := bne_iff_ne.mpr c10
          obtain rfl := Option.some.inj H
          go_wp2
          go_ret
          exact ⟨by first | rfl | (simp [errW_none, errW_some] <;> rfl) | (simp [*, errW_none, errW_some] <;> rfl), by repeat (first | (with_reducible first | exact HB.out | apply below_alloc | apply pw_below_drewN | apply below_drew1) | exact HB.out)⟩
      · replace c9 := Bool.eq_false_iff.mpr c9
        subst c9
        have H1 : ((nat_Mul.f kj3 t176 a1).bind fun bt181 => (if t177 = 0 then (if bt181.2 = 0 then (if bt181.1 < a0 then (camshaftlaw10_NatCeils.j1 kj3 a0 a1 t176 true) else (if t176 > 0 then (if (wrap64 (a1 * (wrap64 (t176 - 1)))) ≥ a0 then (camshaftlaw10_NatCeils.j1 kj3 a0 a1 t176 true) else (camshaftlaw10_NatCeils.j1 kj3 a0 a1 t176 (decide (t176 < 0)))) else (camshaftlaw10_NatCeils.j1 kj3 a0 a1 t176 (decide (t176 < 0))))) else (if t176 > 0 then (if (wrap64 (a1 * (wrap64 (t176 - 1)))) ≥ a0 then (camshaftlaw10_NatCeils.j1 kj3 a0 a1 t176 true) else (camshaftlaw10_NatCeils.j1 kj3 a0 a1 t176 (decide (t176 < 0)))) else (camshaftlaw10_NatCeils.j1 kj3 a0 a1 t176 (decide (t176 < 0))))) else (camshaftlaw10_NatCeils.j1 kj3 a0 a1 t176 true))) = some r := by rw [if_neg (show ¬ (false = true) by decide)] at H; exact H
        clear H
        have H := H1
        clear H1
        replace H := Option.bind_eq_some_iff.mp H
        obtain ⟨⟨t181, t182⟩, A140, H⟩ := H
        replace H : (if t177 = 0 then (if t182 = 0 then (if t181 < a0 then (camshaftlaw10_NatCeils.j1 kj3 a0 a1 t176 true) else (if t176 > 0 then (if (wrap64 (a1 * (wrap64 (t176 - 1)))) ≥ a0 then (camshaftlaw10_NatCeils.j1 kj3 a0 a1 t176 true) else (camshaftlaw10_NatCeils.j1 kj3 a0 a1 t176 (decide (t176 < 0)))) else (camshaftlaw10_NatCeils.j1 kj3 a0 a1 t176 (decide (t176 < 0))))) else (if t176 > 0 then (if (wrap64 (a1 * (wrap64 (t176 - 1)))) ≥ a0 then (camshaftlaw10_NatCeils.j1 kj3 a0 a1 t176 true) else (camshaftlaw10_NatCeils.j1 kj3 a0 a1 t176 (decide (t176 < 0)))) else (camshaftlaw10_NatCeils.j1 kj3 a0 a1 t176 (decide (t176 < 0))))) else (camshaftlaw10_NatCeils.j1 kj3 a0 a1 t176 true)) = some r := H
        have A14 := Aside0.mk A140
        clear A140
        have HC15 := Aside0.mk H
        clear H
        go_upto_region 5 with (first | ((with_reducible refine gate_callee (f := 13) rfl ?_); refine goesL_ (some 41) rfl rfl Try.func13 (by kernel_rfl) rfl #[.int .i64 t176, .int .i64 a1] rfl (by (try simp only [List.map_toArray, List.map_cons, List.map_nil]); first | done | rfl | (simp only [List.length_drop, List.length_take]; rfl)) ?_; (with_reducible refine (nat_Mul.calls kj3 t176 a1 t181 t182 _ A14.out).mono ?_); rintro e w' ⟨rfl, ⟨nd, rfl⟩⟩; refine ⟨_, rfl, ?_⟩))
        (try simp only [Act.put, List.setIfInBounds_toArray, List.set_cons_zero, List.set_cons_succ])
        go_cut [70] (fun v70 wc => ∃ (kq : Nat) (x70_14 : Bool), v70 = .bool x70_14 ∧ Aside0 (camshaftlaw10_NatCeils.j1 kq a0 a1 t176 x70_14 = some r) ∧ Aside0 (kq ≤ kj3) ∧ Aside0 (Below w.heap.size w wc))
        case first =>
          have H := HC15.out
          clear HC15
          by_cases c16 : t177 = 0
          · rw [if_pos c16] at H
            have c16b0 : (t177 == 0) = true := beq_iff_eq.mpr c16
            have c16b1 : (t177 != 0) = false := bne_eq_false_iff_eq.mpr c16
            clear c16
            (first | rw [c16b0] | (simp only [i64_w, i32_w]; rw [c16b0]) | skip)
            by_cases c17 : t182 = 0
            · rw [if_pos c17] at H
              have c17b0 : (t182 == 0) = true := beq_iff_eq.mpr c17
              have c17b1 : (t182 != 0) = false := bne_eq_false_iff_eq.mpr c17
              clear c17
              by_cases c18 : t181 < a0
              · rw [if_pos c18] at H
                have c18b0 : decide (t181 < a0) = true := decide_eq_true c18
                clear c18
                have H' := Aside0.mk H
                clear H
                go_wp2
                go_meet
                case rel => exact ⟨_, (true), (by first | rfl | (simp; done) | (simp [*]; done)), H', ⟨by have := HJ3.out; first | omega | exact Nat.le_refl _⟩, ⟨by repeat (first | (with_reducible first | exact HB.out | apply below_alloc | apply pw_below_drewN | apply below_drew1) | exact HB.out)⟩⟩
              · rw [if_neg c18] at H
                have c18b0 : decide (t181 < a0) = false := decide_eq_false c18
                clear c18
                by_cases c19 : t176 > 0
                · rw [if_pos c19] at H
                  have c19b0 : decide (0 < t176) = true := decide_eq_true c19
                  clear c19
                  by_cases c20 : (wrap64 (a1 * (wrap64 (t176 - 1)))) ≥ a0
                  · rw [if_pos c20] at H
                    have c20b0 : decide (a0 ≤ (wrap64 (a1 * (wrap64 (t176 - 1))))) = true := decide_eq_true c20
                    clear c20
                    have H' := Aside0.mk H
                    clear H
                    go_wp2
                    go_meet
                    case rel => exact ⟨_, (true), (by first | rfl | (simp; done) | (simp [*]; done)), H', ⟨by have := HJ3.out; first | omega | exact Nat.le_refl _⟩, ⟨by repeat (first | (with_reducible first | exact HB.out | apply below_alloc | apply pw_below_drewN | apply below_drew1) | exact HB.out)⟩⟩
                  · rw [if_neg c20] at H
                    have c20b0 : decide (a0 ≤ (wrap64 (a1 * (wrap64 (t176 - 1))))) = false := decide_eq_false c20
                    clear c20
                    have H' := Aside0.mk H
                    clear H
                    go_wp2
                    go_meet
                    case rel => exact ⟨_, (decide (t176 < 0)), (by first | rfl | (simp; done) | (simp [*]; done)), H', ⟨by have := HJ3.out; first | omega | exact Nat.le_refl _⟩, ⟨by repeat (first | (with_reducible first | exact HB.out | apply below_alloc | apply pw_below_drewN | apply below_drew1) | exact HB.out)⟩⟩
                · rw [if_neg c19] at H
                  have c19b0 : decide (0 < t176) = false := decide_eq_false c19
                  clear c19
                  have H' := Aside0.mk H
                  clear H
                  go_wp2
                  go_meet
                  case rel => exact ⟨_, (decide (t176 < 0)), (by first | rfl | (simp; done) | (simp [*]; done)), H', ⟨by have := HJ3.out; first | omega | exact Nat.le_refl _⟩, ⟨by repeat (first | (with_reducible first | exact HB.out | apply below_alloc | apply pw_below_drewN | apply below_drew1) | exact HB.out)⟩⟩
            · rw [if_neg c17] at H
              have c17b0 : (t182 == 0) = false := beq_eq_false_iff_ne.mpr c17
              have c17b1 : (t182 != 0) = true := bne_iff_ne.mpr c17
              by_cases c21 : t176 > 0
              · rw [if_pos c21] at H
                have c21b0 : decide (0 < t176) = true := decide_eq_true c21
                clear c21
                by_cases c22 : (wrap64 (a1 * (wrap64 (t176 - 1)))) ≥ a0
                · rw [if_pos c22] at H
                  have c22b0 : decide (a0 ≤ (wrap64 (a1 * (wrap64 (t176 - 1))))) = true := decide_eq_true c22
                  clear c22
                  have H' := Aside0.mk H
                  clear H
                  go_wp2
                  go_meet
                  case rel => exact ⟨_, (true), (by first | rfl | (simp; done) | (simp [*]; done)), H', ⟨by have := HJ3.out; first | omega | exact Nat.le_refl _⟩, ⟨by repeat (first | (with_reducible first | exact HB.out | apply below_alloc | apply pw_below_drewN | apply below_drew1) | exact HB.out)⟩⟩
                · rw [if_neg c22] at H
                  have c22b0 : decide (a0 ≤ (wrap64 (a1 * (wrap64 (t176 - 1))))) = false := decide_eq_false c22
                  clear c22
                  have H' := Aside0.mk H
                  clear H
                  go_wp2
                  go_meet
                  case rel => exact ⟨_, (decide (t176 < 0)), (by first | rfl | (simp; done) | (simp [*]; done)), H', ⟨by have := HJ3.out; first | omega | exact Nat.le_refl _⟩, ⟨by repeat (first | (with_reducible first | exact HB.out | apply below_alloc | apply pw_below_drewN | apply below_drew1) | exact HB.out)⟩⟩
              · rw [if_neg c21] at H
                have c21b0 : decide (0 < t176) = false := decide_eq_false c21
                clear c21
                have H' := Aside0.mk H
                clear H
                go_wp2
                go_meet
                case rel => exact ⟨_, (decide (t176 < 0)), (by first | rfl | (simp; done) | (simp [*]; done)), H', ⟨by have := HJ3.out; first | omega | exact Nat.le_refl _⟩, ⟨by repeat (first | (with_reducible first | exact HB.out | apply below_alloc | apply pw_below_drewN | apply below_drew1) | exact HB.out)⟩⟩
          · rw [if_neg c16] at H
            have c16b0 : (t177 == 0) = false := beq_eq_false_iff_ne.mpr c16
            have c16b1 : (t177 != 0) = true := bne_iff_ne.mpr c16
            (first | rw [c16b0] | (simp only [i64_w, i32_w]; rw [c16b0]) | skip)
            have H' := Aside0.mk H
            clear H
            go_wp2
            go_meet
            case rel => exact ⟨_, (true), (by first | rfl | (simp; done) | (simp [*]; done)), H', ⟨by have := HJ3.out; first | omega | exact Nat.le_refl _⟩, ⟨by repeat (first | (with_reducible first | exact HB.out | apply below_alloc | apply pw_below_drewN | apply below_drew1) | exact HB.out)⟩⟩
        case rest =>
          clear HC15
          try clear c1
          try clear c2
          try clear p2
          try clear c5
          try clear c6
          try clear p6
          try clear c8
          try clear c9
          try clear c10
          try clear c10b0
          try clear c10b1
          try clear c11
          try clear c11b0
          try clear c11b1
          try clear c13
          try clear c15
          try clear c16
          try clear c16b0
          try clear c16b1
          try clear c17
          try clear c17b0
          try clear c17b1
          try clear c18
          try clear c18b0
          try clear c19
          try clear c19b0
          try clear c20
          try clear c20b0
          try clear c21
          try clear c21b0
          try clear c22
          try clear c22b0
          try clear p2
          obtain ⟨kq, x70_14, rfl, HA, HJ14, HB⟩ := hcut
          cases kq with
          | zero => exact absurd HA.out (by simp [camshaftlaw10_NatCeils.j1])
          | succ kj14 =>
            have H := HA.out
            clear HA
            simp only [camshaftlaw10_NatCeils.j1] at H
            by_cases c23 : x70_14 = true
            · subst c23
              have H1 : (some false) = some r := by rw [if_pos rfl] at H; exact H
              clear H
              have H := H1
              clear H1
              obtain rfl := Option.some.inj H
              go_wp2
              go_ret
              exact ⟨by first | rfl | (simp [errW_none, errW_some] <;> rfl) | (simp [*, errW_none, errW_some] <;> rfl), by repeat (first | (with_reducible first | exact HB.out | apply below_alloc | apply pw_below_drewN | apply below_drew1) | exact HB.out)⟩
            · replace c23 := Bool.eq_false_iff.mpr c23
              subst c23
              have H1 : ((nat_Ceil.f kj14 (wrap64 (a0 + 1)) a1).bind fun bt183 => (if bt183.2 = 0 then (if bt183.1 ≥ t176 then (if bt183.1 ≤ (wrap64 (t176 + 1)) then ((camshaftlaw10_known.f).bind fun t185 => (some t185)) else (some false)) else (some false)) else ((camshaftlaw10_known.f).bind fun t186 => (some t186)))) = some r := by rw [if_neg (show ¬ (false = true) by decide)] at H; exact H
              clear H
              have H := H1
              clear H1
              replace H := Option.bind_eq_some_iff.mp H
              obtain ⟨⟨t183, t184⟩, A240, H⟩ := H
              replace H : (if t184 = 0 then (if t183 ≥ t176 then (if t183 ≤ (wrap64 (t176 + 1)) then ((camshaftlaw10_known.f).bind fun t185 => (some t185)) else (some false)) else (some false)) else ((camshaftlaw10_known.f).bind fun t186 => (some t186))) = some r := H
              have A24 := Aside0.mk A240
              clear A240
              by_cases c25 : t184 = 0
              · rw [if_pos c25] at H
                have c25b0 : (t184 == 0) = true := beq_iff_eq.mpr c25
                have c25b1 : (t184 != 0) = false := bne_eq_false_iff_eq.mpr c25
                clear c25
                by_cases c26 : t183 ≥ t176
                · rw [if_pos c26] at H
                  have c26b0 : decide (t176 ≤ t183) = true := decide_eq_true c26
                  clear c26
                  by_cases c27 : t183 ≤ (wrap64 (t176 + 1))
                  · rw [if_pos c27] at H
                    have c27b0 : decide (t183 ≤ (wrap64 (t176 + 1))) = true := decide_eq_true c27
                    clear c27
                    replace H := Option.bind_eq_some_iff.mp H
                    obtain ⟨t185, A280, H⟩ := H
                    replace H : (some t185) = some r := H
                    have A28 := Aside0.mk A280
                    clear A280
                    obtain rfl := Option.some.inj H
                    go_wp2_with (first | ((with_reducible refine gate_callee (f := 15) rfl ?_); refine goesL_ (some 75) rfl rfl Try.func15 (by kernel_rfl) rfl #[.int .i64 (wrap64 (a0 + 1)), .int .i64 a1] rfl (by (try simp only [List.map_toArray, List.map_cons, List.map_nil]); first | done | rfl | (simp only [List.length_drop, List.length_take]; rfl)) ?_; (with_reducible refine (nat_Ceil.calls kj14 (wrap64 (a0 + 1)) a1 t183 t184 _ A24.out).mono ?_); rintro e w' ⟨rfl, ⟨nd, rfl⟩⟩; refine ⟨_, rfl, ?_⟩) | (go_at_call 10; (with_reducible refine (camshaftlaw10_known.calls  t185 _ A28.out).mono ?_); rintro e w29 ⟨rfl, hb⟩; have n0_ := Aside0.mk (below_step (by repeat (first | (with_reducible first | exact HB.out | apply below_alloc | apply pw_below_drewN | apply below_drew1) | exact HB.out)) hb); clear HB; have HB := n0_; clear n0_; (try clear hb); (try clear hb2); (try clear hk); (try clear hi)))
                    go_ret
                    exact ⟨by first | rfl | (simp [errW_none, errW_some] <;> rfl) | (simp [*, errW_none, errW_some] <;> rfl), by repeat (first | (with_reducible first | exact HB.out | apply below_alloc | apply pw_below_drewN | apply below_drew1) | exact HB.out)⟩
                  · rw [if_neg c27] at H
                    have c27b0 : decide (t183 ≤ (wrap64 (t176 + 1))) = false := decide_eq_false c27
                    clear c27
                    obtain rfl := Option.some.inj H
                    go_wp2_with (first | ((with_reducible refine gate_callee (f := 15) rfl ?_); refine goesL_ (some 75) rfl rfl Try.func15 (by kernel_rfl) rfl #[.int .i64 (wrap64 (a0 + 1)), .int .i64 a1] rfl (by (try simp only [List.map_toArray, List.map_cons, List.map_nil]); first | done | rfl | (simp only [List.length_drop, List.length_take]; rfl)) ?_; (with_reducible refine (nat_Ceil.calls kj14 (wrap64 (a0 + 1)) a1 t183 t184 _ A24.out).mono ?_); rintro e w' ⟨rfl, ⟨nd, rfl⟩⟩; refine ⟨_, rfl, ?_⟩))
                    go_ret
                    exact ⟨by first | rfl | (simp [errW_none, errW_some] <;> rfl) | (simp [*, errW_none, errW_some] <;> rfl), by repeat (first | (with_reducible first | exact HB.out | apply below_alloc | apply pw_below_drewN | apply below_drew1) | exact HB.out)⟩
                · rw [if_neg c26] at H
                  have c26b0 : decide (t176 ≤ t183) = false := decide_eq_false c26
                  clear c26
                  obtain rfl := Option.some.inj H
                  go_wp2_with (first | ((with_reducible refine gate_callee (f := 15) rfl ?_); refine goesL_ (some 75) rfl rfl Try.func15 (by kernel_rfl) rfl #[.int .i64 (wrap64 (a0 + 1)), .int .i64 a1] rfl (by (try simp only [List.map_toArray, List.map_cons, List.map_nil]); first | done | rfl | (simp only [List.length_drop, List.length_take]; rfl)) ?_; (with_reducible refine (nat_Ceil.calls kj14 (wrap64 (a0 + 1)) a1 t183 t184 _ A24.out).mono ?_); rintro e w' ⟨rfl, ⟨nd, rfl⟩⟩; refine ⟨_, rfl, ?_⟩))
                  go_ret
                  exact ⟨by first | rfl | (simp [errW_none, errW_some] <;> rfl) | (simp [*, errW_none, errW_some] <;> rfl), by repeat (first | (with_reducible first | exact HB.out | apply below_alloc | apply pw_below_drewN | apply below_drew1) | exact HB.out)⟩
              · rw [if_neg c25] at H
                have c25b0 : (t184 == 0) = false := beq_eq_false_iff_ne.mpr c25
                have c25b1 : (t184 != 0) = true := bne_iff_ne.mpr c25
                replace H := Option.bind_eq_some_iff.mp H
                obtain ⟨t186, A300, H⟩ := H
                replace H : (some t186) = some r := H
                have A30 := Aside0.mk A300
                clear A300
                obtain rfl := Option.some.inj H
                go_wp2_with (first | ((with_reducible refine gate_callee (f := 15) rfl ?_); refine goesL_ (some 75) rfl rfl Try.func15 (by kernel_rfl) rfl #[.int .i64 (wrap64 (a0 + 1)), .int .i64 a1] rfl (by (try simp only [List.map_toArray, List.map_cons, List.map_nil]); first | done | rfl | (simp only [List.length_drop, List.length_take]; rfl)) ?_; (with_reducible refine (nat_Ceil.calls kj14 (wrap64 (a0 + 1)) a1 t183 t184 _ A24.out).mono ?_); rintro e w' ⟨rfl, ⟨nd, rfl⟩⟩; refine ⟨_, rfl, ?_⟩) | (go_at_call 10; (with_reducible refine (camshaftlaw10_known.calls  t186 _ A30.out).mono ?_); rintro e w31 ⟨rfl, hb⟩; have n0_ := Aside0.mk (below_step (by repeat (first | (with_reducible first | exact HB.out | apply below_alloc | apply pw_below_drewN | apply below_drew1) | exact HB.out)) hb); clear HB; have HB := n0_; clear n0_; (try clear hb); (try clear hb2); (try clear hk); (try clear hi)))
                go_ret
                exact ⟨by first | rfl | (simp [errW_none, errW_some] <;> rfl) | (simp [*, errW_none, errW_some] <;> rfl), by repeat (first | (with_reducible first | exact HB.out | apply below_alloc | apply pw_below_drewN | apply below_drew1) | exact HB.out)⟩

/-- THE ONE PURE STATEMENT of camshaftlaw10_NatCeils: yours. -/
def camshaftlaw10_NatCeils.Pure : Prop := ∀ (a0 : Int) (a1 : Int), (Lit.int .i64 a0).wf = true → (Lit.int .i64 a1).wf = true → ∃ k, camshaftlaw10_NatCeils.f k a0 a1 = some true
theorem camshaftlaw10_NatCeils.walk (P : camshaftlaw10_NatCeils.Pure) (a0 : Int) (a1 : Int) (w : World) (w0 : (Lit.int .i64 a0).wf = true) (w1 : (Lit.int .i64 a1).wf = true) :
    Calls Try.prog 5 #[.int .i64 a0, .int .i64 a1] w fun e w' => e = .returned (.bool true) ∧ Below w.heap.size w w' := by
  obtain ⟨k, h⟩ := P a0 a1 w0 w1
  refine (camshaftlaw10_NatCeils.calls k a0 a1 true w h).mono ?_
  rintro e w' ⟨rfl, hd⟩
  exact ⟨rfl, hd⟩

end Go.Proofs.Ytdkagkoglefncaa.Print
