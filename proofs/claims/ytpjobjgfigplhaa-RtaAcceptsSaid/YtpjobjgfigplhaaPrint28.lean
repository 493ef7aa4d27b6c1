/- WRITTEN BY A PROGRAM OF THE SESSION out of the translation: functions in plain Lean, and that the calls come to just these answers; Lean checks every line. -/
import Derived.Test.YtpjobjgfigplhaaPrint0
import Derived.Test.YtpjobjgfigplhaaPrint1
import Derived.Test.YtpjobjgfigplhaaPrint3
import Derived.Test.YtpjobjgfigplhaaPrint11
import Derived.Test.YtpjobjgfigplhaaPrint12
import Derived.Test.YtpjobjgfigplhaaPrint14
namespace Go.Proofs.Ytpjobjgfigplhaa.Print
open Go.RowKit Go.Proofs.YtpjobjgfigplhaaW.PrintWords Go.Proofs.YtpjobjgfigplhaaW.PrintLast Go.Proofs.YtpjobjgfigplhaaW.PrintMore
attribute [local go_sem] max2_int min2_int max_two min_two max_three min_three max_four min_four   -- for this text's walks alone
set_option linter.unusedVariables false
set_option linter.unusedSimpArgs false

/-! ### camshaftlaw14_RtaAccepts: function 7 -/
mutual
def camshaftlaw14_RtaAccepts.j0 : Nat → List (S41) → Int → Int → Bool → Option (Bool)
  | 0, _, _, _, _ => none
  | k + 1, x0, x1, x2, x35 => if x35 = true then ((camshaftlaw14_known.f k).bind fun t329 => (some t329)) else ((rta_Accept.f k x0).bind fun bt330 => (camshaftlaw14_RtaAccepts.l0 k x0 x1 x2 bt330.1 bt330.2.1 bt330.2.2 (-1) (wrap64 ((x0.length : Int) - 1))))
def camshaftlaw14_RtaAccepts.l0 : Nat → List (S41) → Int → Int → List Int → Int → Int → Int → Int → Option (Bool)
  | 0, _, _, _, _, _, _, _, _ => none
  | k + 1, x0, x1, x2, x7, x8, x9, x10, x11 => if x11 ≥ 0 then ((rta_Response.f k x0 x11).bind fun bt350 => (if bt350.2 = 0 then (if x9 = 0 then (if x11 ≥ (x7.length : Int) then (some false) else (if 0 ≤ x11 then (if x11 < (x7.length : Int) then (if (rd x7 x11) = bt350.1 then (camshaftlaw14_RtaAccepts.l0 k x0 x1 x2 x7 x8 x9 x10 (wrap64 (x11 - 1))) else (some false)) else (none)) else (none))) else (camshaftlaw14_RtaAccepts.l0 k x0 x1 x2 x7 x8 x9 x10 (wrap64 (x11 - 1)))) else (if x9 = 0 then (if x11 ≥ (x7.length : Int) then (some false) else (if 0 ≤ x11 then (if x11 < (x7.length : Int) then (if (rd x7 x11) = bt350.1 then (camshaftlaw14_RtaAccepts.l0 k x0 x1 x2 x7 x8 x9 x11 (wrap64 (x11 - 1))) else (some false)) else (none)) else (none))) else (camshaftlaw14_RtaAccepts.l0 k x0 x1 x2 x7 x8 x9 x11 (wrap64 (x11 - 1)))))) else ((some (([] : List (S41)) : List (S41))).bind fun y335 => (if y335.length + x0.length < 2932031007402 then ((some (y335 ++ x0 : List (S41))).bind fun y338 => (if 0 ≤ x1 then (if x1 < (y338.length : Int) then ((rta_Accept.f k (y338.set (x1 : Int).toNat (⟨(rd_T41 y338 x1).f0, (rd_T41 y338 x1).f1, (rd_T41 y338 x1).f2, mn 1048576 (wrap64 (((rd_T41 y338 x1).f3) + (wrap64 (x2)))), (rd_T41 y338 x1).f4, (rd_T41 y338 x1).f5⟩ : S41))).bind fun bt343 => (if x8 = x10 then (if ((x9 == 0) == (decide (x10 < 0))) = true then (if x9 = 0 then (if bt343.2.2 = 0 then ((camshaftlaw14_known.f k).bind fun t348 => (some t348)) else (some false)) else (if (x7.length : Int) = 0 then ((camshaftlaw14_known.f k).bind fun t349 => (some t349)) else (some false))) else (some false)) else (some false))) else (none)) else (none))) else (none)))
end
def camshaftlaw14_RtaAccepts.f (k : Nat) (l0 : List (S41)) (a1 : Int) (a2 : Int) : Option (Bool) := (camshaftlaw14_light.f k l0).bind fun t327 => (if t327 = true then ((rta_Right.f k l0).bind fun t328 => (if t328 = true then (if a1 < 0 then (camshaftlaw14_RtaAccepts.j0 k l0 a1 a2 true) else (camshaftlaw14_RtaAccepts.j0 k l0 a1 a2 (decide (a1 ≥ (l0.length : Int))))) else (camshaftlaw14_RtaAccepts.j0 k l0 a1 a2 true))) else (camshaftlaw14_RtaAccepts.j0 k l0 a1 a2 true))
theorem camshaftlaw14_RtaAccepts.mono_l : ∀ k, (∀ y0 y1 y2 y3, LeO (camshaftlaw14_RtaAccepts.j0 k y0 y1 y2 y3) (camshaftlaw14_RtaAccepts.j0 (k + 1) y0 y1 y2 y3)) ∧ (∀ y0 y1 y2 y3 y4 y5 y6 y7, LeO (camshaftlaw14_RtaAccepts.l0 k y0 y1 y2 y3 y4 y5 y6 y7) (camshaftlaw14_RtaAccepts.l0 (k + 1) y0 y1 y2 y3 y4 y5 y6 y7))
  | 0 => ⟨fun _ _ _ _ r h => by simp [camshaftlaw14_RtaAccepts.j0] at h, fun _ _ _ _ _ _ _ _ r h => by simp [camshaftlaw14_RtaAccepts.l0] at h⟩
  | k + 1 => by
    obtain ⟨ih0, ih1⟩ := camshaftlaw14_RtaAccepts.mono_l k
    refine ⟨?_, ?_⟩
    · intro y0 y1 y2 y3
      unfold camshaftlaw14_RtaAccepts.j0
      repeat' first
      | (with_reducible exact ih0 _ _ _ _)
      | (with_reducible exact ih1 _ _ _ _ _ _ _ _)
      | (with_reducible exact camshaftlaw14_known.mono _)
      | (with_reducible exact camshaftlaw14_light.mono _ _)
      | (with_reducible exact rta_Accept.mono _ _)
      | (with_reducible exact rta_Response.mono _ _ _)
      | (with_reducible exact rta_Right.mono _ _)
      | (with_reducible exact LeO.refl _)
      | (with_reducible exact LeO.none _)
      | (with_reducible refine LeO.ite ?_ ?_)
      | (with_reducible refine LeO.bind ?_ (fun _ => ?_))
      | exact ih0 _ _ _ _
      | exact ih1 _ _ _ _ _ _ _ _
      | exact camshaftlaw14_known.mono _
      | exact camshaftlaw14_light.mono _ _
      | exact rta_Accept.mono _ _
      | exact rta_Response.mono _ _ _
      | exact rta_Right.mono _ _
      | exact LeO.none _
      | refine LeO.ite ?_ ?_
      | refine LeO.bind ?_ (fun _ => ?_)
    · intro y0 y1 y2 y3 y4 y5 y6 y7
      unfold camshaftlaw14_RtaAccepts.l0
      repeat' first
      | (with_reducible exact ih0 _ _ _ _)
      | (with_reducible exact ih1 _ _ _ _ _ _ _ _)
      | (with_reducible exact camshaftlaw14_known.mono _)
      | (with_reducible exact camshaftlaw14_light.mono _ _)
      | (with_reducible exact rta_Accept.mono _ _)
      | (with_reducible exact rta_Response.mono _ _ _)
      | (with_reducible exact rta_Right.mono _ _)
      | (with_reducible exact LeO.refl _)
      | (with_reducible exact LeO.none _)
      | (with_reducible refine LeO.ite ?_ ?_)
      | (with_reducible refine LeO.bind ?_ (fun _ => ?_))
      | exact ih0 _ _ _ _
      | exact ih1 _ _ _ _ _ _ _ _
      | exact camshaftlaw14_known.mono _
      | exact camshaftlaw14_light.mono _ _
      | exact rta_Accept.mono _ _
      | exact rta_Response.mono _ _ _
      | exact rta_Right.mono _ _
      | exact LeO.none _
      | refine LeO.ite ?_ ?_
      | refine LeO.bind ?_ (fun _ => ?_)
theorem camshaftlaw14_RtaAccepts.mono : ∀ a0 a1 a2 k, LeO (camshaftlaw14_RtaAccepts.f k a0 a1 a2) (camshaftlaw14_RtaAccepts.f (k + 1) a0 a1 a2) := by
  intro a0 a1 a2 k
  obtain ⟨ih0, ih1⟩ := camshaftlaw14_RtaAccepts.mono_l k
  unfold camshaftlaw14_RtaAccepts.f
  repeat' first
      | (with_reducible exact ih0 _ _ _ _)
      | (with_reducible exact ih1 _ _ _ _ _ _ _ _)
      | (with_reducible exact camshaftlaw14_known.mono _)
      | (with_reducible exact camshaftlaw14_light.mono _ _)
      | (with_reducible exact rta_Accept.mono _ _)
      | (with_reducible exact rta_Response.mono _ _ _)
      | (with_reducible exact rta_Right.mono _ _)
      | (with_reducible exact LeO.refl _)
      | (with_reducible exact LeO.none _)
      | (with_reducible refine LeO.ite ?_ ?_)
      | (with_reducible refine LeO.bind ?_ (fun _ => ?_))
      | exact ih0 _ _ _ _
      | exact ih1 _ _ _ _ _ _ _ _
      | exact camshaftlaw14_known.mono _
      | exact camshaftlaw14_light.mono _ _
      | exact rta_Accept.mono _ _
      | exact rta_Response.mono _ _ _
      | exact rta_Right.mono _ _
      | exact LeO.none _
      | refine LeO.ite ?_ ?_
      | refine LeO.bind ?_ (fun _ => ?_)
set_option maxHeartbeats 8000000 in
set_option maxRecDepth 100000 in
theorem camshaftlaw14_RtaAccepts.calls (k : Nat) (A0 : Option Addr) (c0 : Nat) (l0 : List (S41)) (a1 : Int) (a2 : Int) (r : Bool) (w : World) (hr0 : Kd.C k41 w A0 l0.length l0) (hc0 : l0.length ≤ c0) (hr : r = true) (h : camshaftlaw14_RtaAccepts.f k l0 a1 a2 = some r) :
    Calls Try.prog 7 #[.slice A0 l0.length c0, .int .i64 a1, .int .u8 a2] w fun e w' => e = .returned (.bool r) ∧ Below w.heap.size w w' := by
  have HR0 := Aside0.mk hr0
  have HC0 := Aside0.mk hc0
  clear hr0 hc0
  have HB := Aside0.mk (Below.refl w.heap.size w)
  have H : ((camshaftlaw14_light.f k l0).bind fun t327 => (if t327 = true then ((rta_Right.f k l0).bind fun t328 => (if t328 = true then (if a1 < 0 then (camshaftlaw14_RtaAccepts.j0 k l0 a1 a2 true) else (camshaftlaw14_RtaAccepts.j0 k l0 a1 a2 (decide (a1 ≥ (l0.length : Int))))) else (camshaftlaw14_RtaAccepts.j0 k l0 a1 a2 true))) else (camshaftlaw14_RtaAccepts.j0 k l0 a1 a2 true))) = some r := h
  clear h
  have HC4 := Aside0.mk H
  clear H
  go_enter Try.func7, Try.ntmps7
  go_upto_region 1 with (fail)
  go_cut [35] (fun v35 wc => ∃ (kq : Nat) (x35_3 : Bool), v35 = .bool x35_3 ∧ Aside0 (camshaftlaw14_RtaAccepts.j0 kq l0 a1 a2 x35_3 = some r) ∧ Aside0 (kq ≤ k) ∧ Aside0 (Below w.heap.size w wc))
  case first =>
    have H := HC4.out
    clear HC4
    replace H := Option.bind_eq_some_iff.mp H
    obtain ⟨t327, A50, H⟩ := H
    replace H : (if t327 = true then ((rta_Right.f k l0).bind fun t328 => (if t328 = true then (if a1 < 0 then (camshaftlaw14_RtaAccepts.j0 k l0 a1 a2 true) else (camshaftlaw14_RtaAccepts.j0 k l0 a1 a2 (decide (a1 ≥ (l0.length : Int))))) else (camshaftlaw14_RtaAccepts.j0 k l0 a1 a2 true))) else (camshaftlaw14_RtaAccepts.j0 k l0 a1 a2 true)) = some r := H
    have A5 := Aside0.mk A50
    clear A50
    by_cases c6 : t327 = true
    · subst c6
      have H1 : ((rta_Right.f k l0).bind fun t328 => (if t328 = true then (if a1 < 0 then (camshaftlaw14_RtaAccepts.j0 k l0 a1 a2 true) else (camshaftlaw14_RtaAccepts.j0 k l0 a1 a2 (decide (a1 ≥ (l0.length : Int))))) else (camshaftlaw14_RtaAccepts.j0 k l0 a1 a2 true))) = some r := by rw [if_pos rfl] at H; exact H
      clear H
      have H := H1
      clear H1
      replace H := Option.bind_eq_some_iff.mp H
      obtain ⟨t328, A70, H⟩ := H
      replace H : (if t328 = true then (if a1 < 0 then (camshaftlaw14_RtaAccepts.j0 k l0 a1 a2 true) else (camshaftlaw14_RtaAccepts.j0 k l0 a1 a2 (decide (a1 ≥ (l0.length : Int))))) else (camshaftlaw14_RtaAccepts.j0 k l0 a1 a2 true)) = some r := H
      have A7 := Aside0.mk A70
      clear A70
      by_cases c8 : t328 = true
      · subst c8
        have H1 : (if a1 < 0 then (camshaftlaw14_RtaAccepts.j0 k l0 a1 a2 true) else (camshaftlaw14_RtaAccepts.j0 k l0 a1 a2 (decide (a1 ≥ (l0.length : Int))))) = some r := by rw [if_pos rfl] at H; exact H
        clear H
        have H := H1
        clear H1
        by_cases c9 : a1 < 0
        · rw [if_pos c9] at H
          have c9b0 : decide (a1 < 0) = true := decide_eq_true c9
          clear c9
          (first | rw [c9b0] | (simp only [i64_w, i32_w]; rw [c9b0]) | skip)
          have H' := Aside0.mk H
          clear H
          go_wp2_with (first | ((with_reducible refine gate_callee (f := 9) rfl ?_); refine goesL_ (some 19) rfl rfl Try.func9 (by kernel_rfl) rfl #[.slice A0 l0.length c0] rfl (by (try simp only [List.map_toArray, List.map_cons, List.map_nil]); first | done | rfl | (simp only [List.length_drop, List.length_take]; rfl)) ?_; (with_reducible refine (camshaftlaw14_light.calls k _ _ l0 true _ ?side1 ?side2 A5.out).mono ?_); (case side1 => repeat (first | exact (Kd.C_below HR0.out HB.out) | (with_reducible refine Kd.C_alloc ?_ _) | (with_reducible refine Kd.C_drewN ?_ _) | (with_reducible refine Kd.C_drew ?_))); (case side2 => exact HC0.out); rintro e w' ⟨rfl, ⟨nd, rfl⟩⟩; refine ⟨_, rfl, ?_⟩) | (go_at_call 18; (with_reducible refine (rta_Right.calls k _ _ l0 true _ ?side1 ?side2 A7.out).mono ?_); (case side1 => repeat (first | exact (Kd.C_below HR0.out (by repeat (first | (with_reducible first | exact HB.out | apply below_alloc | apply pw_below_drewN | apply below_drew1) | exact HB.out))) | (with_reducible refine Kd.C_alloc ?_ _) | (with_reducible refine Kd.C_drewN ?_ _) | (with_reducible refine Kd.C_drew ?_))); (case side2 => exact HC0.out); rintro e w10 ⟨rfl, hb⟩; have n0_ := Aside0.mk (below_step (by repeat (first | (with_reducible first | exact HB.out | apply below_alloc | apply pw_below_drewN | apply below_drew1) | exact HB.out)) hb); clear HB; have HB := n0_; clear n0_ hb))
          go_meet
          case rel => exact ⟨_, (true), (by first | rfl | (simp; done) | (simp [*]; done)), H', ⟨by first | omega | exact Nat.le_refl _⟩, ⟨by repeat (first | (with_reducible first | exact HB.out | apply below_alloc | apply pw_below_drewN | apply below_drew1) | exact HB.out)⟩⟩
        · rw [if_neg c9] at H
          have c9b0 : decide (a1 < 0) = false := decide_eq_false c9
          clear c9
          (first | rw [c9b0] | (simp only [i64_w, i32_w]; rw [c9b0]) | skip)
          have H' := Aside0.mk H
          clear H
          go_wp2_with (first | ((with_reducible refine gate_callee (f := 9) rfl ?_); refine goesL_ (some 19) rfl rfl Try.func9 (by kernel_rfl) rfl #[.slice A0 l0.length c0] rfl (by (try simp only [List.map_toArray, List.map_cons, List.map_nil]); first | done | rfl | (simp only [List.length_drop, List.length_take]; rfl)) ?_; (with_reducible refine (camshaftlaw14_light.calls k _ _ l0 true _ ?side1 ?side2 A5.out).mono ?_); (case side1 => repeat (first | exact (Kd.C_below HR0.out HB.out) | (with_reducible refine Kd.C_alloc ?_ _) | (with_reducible refine Kd.C_drewN ?_ _) | (with_reducible refine Kd.C_drew ?_))); (case side2 => exact HC0.out); rintro e w' ⟨rfl, ⟨nd, rfl⟩⟩; refine ⟨_, rfl, ?_⟩) | (go_at_call 18; (with_reducible refine (rta_Right.calls k _ _ l0 true _ ?side1 ?side2 A7.out).mono ?_); (case side1 => repeat (first | exact (Kd.C_below HR0.out (by repeat (first | (with_reducible first | exact HB.out | apply below_alloc | apply pw_below_drewN | apply below_drew1) | exact HB.out))) | (with_reducible refine Kd.C_alloc ?_ _) | (with_reducible refine Kd.C_drewN ?_ _) | (with_reducible refine Kd.C_drew ?_))); (case side2 => exact HC0.out); rintro e w11 ⟨rfl, hb⟩; have n0_ := Aside0.mk (below_step (by repeat (first | (with_reducible first | exact HB.out | apply below_alloc | apply pw_below_drewN | apply below_drew1) | exact HB.out)) hb); clear HB; have HB := n0_; clear n0_ hb))
          go_meet
          case rel => exact ⟨_, (decide (a1 ≥ (l0.length : Int))), (by first | rfl | (simp; done) | (simp [*]; done)), H', ⟨by first | omega | exact Nat.le_refl _⟩, ⟨by repeat (first | (with_reducible first | exact HB.out | apply below_alloc | apply pw_below_drewN | apply below_drew1) | exact HB.out)⟩⟩
      · replace c8 := Bool.eq_false_iff.mpr c8
        subst c8
        have H1 : (camshaftlaw14_RtaAccepts.j0 k l0 a1 a2 true) = some r := by rw [if_neg (show ¬ (false = true) by decide)] at H; exact H
        clear H
        have H := H1
        clear H1
        have H' := Aside0.mk H
        clear H
        go_wp2_with (first | ((with_reducible refine gate_callee (f := 9) rfl ?_); refine goesL_ (some 19) rfl rfl Try.func9 (by kernel_rfl) rfl #[.slice A0 l0.length c0] rfl (by (try simp only [List.map_toArray, List.map_cons, List.map_nil]); first | done | rfl | (simp only [List.length_drop, List.length_take]; rfl)) ?_; (with_reducible refine (camshaftlaw14_light.calls k _ _ l0 true _ ?side1 ?side2 A5.out).mono ?_); (case side1 => repeat (first | exact (Kd.C_below HR0.out HB.out) | (with_reducible refine Kd.C_alloc ?_ _) | (with_reducible refine Kd.C_drewN ?_ _) | (with_reducible refine Kd.C_drew ?_))); (case side2 => exact HC0.out); rintro e w' ⟨rfl, ⟨nd, rfl⟩⟩; refine ⟨_, rfl, ?_⟩) | (go_at_call 18; (with_reducible refine (rta_Right.calls k _ _ l0 false _ ?side1 ?side2 A7.out).mono ?_); (case side1 => repeat (first | exact (Kd.C_below HR0.out (by repeat (first | (with_reducible first | exact HB.out | apply below_alloc | apply pw_below_drewN | apply below_drew1) | exact HB.out))) | (with_reducible refine Kd.C_alloc ?_ _) | (with_reducible refine Kd.C_drewN ?_ _) | (with_reducible refine Kd.C_drew ?_))); (case side2 => exact HC0.out); rintro e w12 ⟨rfl, hb⟩; have n0_ := Aside0.mk (below_step (by repeat (first | (with_reducible first | exact HB.out | apply below_alloc | apply pw_below_drewN | apply below_drew1) | exact HB.out)) hb); clear HB; have HB := n0_; clear n0_ hb))
        go_meet
        case rel => exact ⟨_, (true), (by first | rfl | (simp; done) | (simp [*]; done)), H', ⟨by first | omega | exact Nat.le_refl _⟩, ⟨by repeat (first | (with_reducible first | exact HB.out | apply below_alloc | apply pw_below_drewN | apply below_drew1) | exact HB.out)⟩⟩
    · replace c6 := Bool.eq_false_iff.mpr c6
      subst c6
      have H1 : (camshaftlaw14_RtaAccepts.j0 k l0 a1 a2 true) = some r := by rw [if_neg (show ¬ (false = true) by decide)] at H; exact H
      clear H
      have H := H1
      clear H1
      have H' := Aside0.mk H
      clear H
      go_wp2_with (first | ((with_reducible refine gate_callee (f := 9) rfl ?_); refine goesL_ (some 19) rfl rfl Try.func9 (by kernel_rfl) rfl #[.slice A0 l0.length c0] rfl (by (try simp only [List.map_toArray, List.map_cons, List.map_nil]); first | done | rfl | (simp only [List.length_drop, List.length_take]; rfl)) ?_; (with_reducible refine (camshaftlaw14_light.calls k _ _ l0 false _ ?side1 ?side2 A5.out).mono ?_); (case side1 => repeat (first | exact (Kd.C_below HR0.out HB.out) | (with_reducible refine Kd.C_alloc ?_ _) | (with_reducible refine Kd.C_drewN ?_ _) | (with_reducible refine Kd.C_drew ?_))); (case side2 => exact HC0.out); rintro e w' ⟨rfl, ⟨nd, rfl⟩⟩; refine ⟨_, rfl, ?_⟩))
      go_meet
      case rel => exact ⟨_, (true), (by first | rfl | (simp; done) | (simp [*]; done)), H', ⟨by first | omega | exact Nat.le_refl _⟩, ⟨by repeat (first | (with_reducible first | exact HB.out | apply below_alloc | apply pw_below_drewN | apply below_drew1) | exact HB.out)⟩⟩
  case rest =>
    clear HC4
    try clear p2
    try clear c6
    try clear c7
    try clear c8
    try clear c9
    try clear c9b0
    obtain ⟨kq, x35_3, rfl, HA, HJ3, HB⟩ := hcut
    cases kq with
    | zero => exact absurd HA.out (by simp [camshaftlaw14_RtaAccepts.j0])
    | succ kj3 =>
      have H := HA.out
      clear HA
      simp only [camshaftlaw14_RtaAccepts.j0] at H
      by_cases c13 : x35_3 = true
      · subst c13
        have H1 : ((camshaftlaw14_known.f kj3).bind fun t329 => (some t329)) = some r := by rw [if_pos rfl] at H; exact H
        clear H
        have H := H1
        clear H1
        replace H := Option.bind_eq_some_iff.mp H
        obtain ⟨t329, A140, H⟩ := H
        replace H : (some t329) = some r := H
        have A14 := Aside0.mk A140
        clear A140
        obtain rfl := Option.some.inj H
        go_wp2_with (first | ((with_reducible refine gate_callee (f := 10) rfl ?_); refine goesL_ (some 36) rfl rfl Try.func10 (by kernel_rfl) rfl #[] rfl (by (try simp only [List.map_toArray, List.map_cons, List.map_nil]); first | done | rfl | (simp only [List.length_drop, List.length_take]; rfl)) ?_; (with_reducible refine (camshaftlaw14_known.calls kj3  t329 _ A14.out).mono ?_); rintro e w15 ⟨rfl, hb⟩; refine ⟨_, rfl, ?_⟩; have n0_ := Aside0.mk (below_step (by repeat (first | (with_reducible first | exact HB.out | apply below_alloc | apply pw_below_drewN | apply below_drew1) | exact HB.out)) hb); clear HB; have HB := n0_; clear n0_ hb))
        go_ret
        exact ⟨by first | rfl | (simp [errW_none, errW_some] <;> rfl) | (simp [*, errW_none, errW_some] <;> rfl), by repeat (first | (with_reducible first | exact HB.out | apply below_alloc | apply pw_below_drewN | apply below_drew1) | exact HB.out)⟩
      · replace c13 := Bool.eq_false_iff.mpr c13
        subst c13
        have H1 : ((rta_Accept.f kj3 l0).bind fun bt330 => (camshaftlaw14_RtaAccepts.l0 kj3 l0 a1 a2 bt330.1 bt330.2.1 bt330.2.2 (-1) (wrap64 ((l0.length : Int) - 1)))) = some r := by rw [if_neg (show ¬ (false = true) by decide)] at H; exact H
        clear H
        have H := H1
        clear H1
        replace H := Option.bind_eq_some_iff.mp H
        obtain ⟨⟨t330, t331, t332⟩, A160, H⟩ := H
        replace H : (camshaftlaw14_RtaAccepts.l0 kj3 l0 a1 a2 t330 t331 t332 (-1) (wrap64 ((l0.length : Int) - 1))) = some r := H
        have A16 := Aside0.mk A160
        clear A160
        have H' := Aside0.mk H
        clear H
        go_wp2_with (first | ((with_reducible refine gate_callee (f := 16) rfl ?_); refine goesL_ (some 39) rfl rfl Try.func16 (by kernel_rfl) rfl #[.slice A0 l0.length c0] rfl (by (try simp only [List.map_toArray, List.map_cons, List.map_nil]); first | done | rfl | (simp only [List.length_drop, List.length_take]; rfl)) ?_; (with_reducible refine (rta_Accept.calls kj3 _ _ l0 t330 t331 t332 _ ?side1 ?side2 A16.out).mono ?_); (case side1 => repeat (first | exact (Kd.C_below HR0.out HB.out) | (with_reducible refine Kd.C_alloc ?_ _) | (with_reducible refine Kd.C_drewN ?_ _) | (with_reducible refine Kd.C_drew ?_))); (case side2 => exact HC0.out); rintro e w17 ⟨v333, rfl, ho0, hb⟩; refine ⟨_, rfl, ?_⟩; have n0_ := Aside0.mk (Kd.R_lower ho0 (below_size (by repeat (first | (with_reducible first | exact HB.out | apply below_alloc | apply pw_below_drewN | apply below_drew1) | exact HB.out)))); have n1_ := Aside0.mk (below_step (by repeat (first | (with_reducible first | exact HB.out | apply below_alloc | apply pw_below_drewN | apply below_drew1) | exact HB.out)) hb); clear HB; have HO334 := n0_; have HB := n1_; clear n0_ n1_; (try clear hb); (try clear hb2); (try clear hk); (try clear hi); (try clear ho0)))
        go_loopg [10, 11] kj3 (fun kq v10 v11 w' => ∃ (x10_2 : Int) (x11_2 : Int), v10 = .int .i64 x10_2 ∧ v11 = .int .i64 x11_2 ∧ Aside0 (camshaftlaw14_RtaAccepts.l0 kq l0 a1 a2 t330 t331 t332 x10_2 x11_2 = some r) ∧ Aside0 (kq ≤ kj3) ∧ Aside0 (Kd.R (Kd.int .i64) 3 w' w.heap.size (fun _ => True) v333 t330) ∧ Aside0 (Below w.heap.size w w'))
        case atStart => exact ⟨((-1)), (wrap64 ((l0.length : Int) - 1)), (by first | rfl | (simp; done) | (simp [*]; done)), (by first | rfl | (simp; done) | (simp [*]; done)), H', ⟨Nat.le_refl _⟩, ⟨by (with_reducible repeat (first | apply Kd.R_alloc | apply Kd.R_drewN | apply Kd.R_drew)); exact HO334.out⟩, ⟨by repeat (first | (with_reducible first | exact HB.out | apply below_alloc | apply pw_below_drewN | apply below_drew1) | exact HB.out)⟩⟩
        case round =>
          clear H'
          try clear c1
          try clear p2
          try clear c6
          try clear p6
          try clear c7
          try clear c8
          try clear c9
          try clear c9b0
          try clear c10
          try clear c13
          try clear c16
          try clear p2
          obtain ⟨x10_2, x11_2, rfl, rfl, HA, HK2, HO_7, HB⟩ := hrel
          cases gk with
          | zero => exact absurd HA.out (by simp [camshaftlaw14_RtaAccepts.l0])
          | succ k2 =>
            have H := HA.out
            clear HA
            simp only [camshaftlaw14_RtaAccepts.l0] at H
            by_cases c18 : x11_2 ≥ 0
            · rw [if_pos c18] at H
              have c18b0 : decide (0 ≤ x11_2) = true := decide_eq_true c18
              clear c18
              replace H := Option.bind_eq_some_iff.mp H
              obtain ⟨⟨t350, t351⟩, A190, H⟩ := H
              replace H : (if t351 = 0 then (if t332 = 0 then (if x11_2 ≥ (t330.length : Int) then (some false) else (if 0 ≤ x11_2 then (if x11_2 < (t330.length : Int) then (if (rd t330 x11_2) = t350 then (camshaftlaw14_RtaAccepts.l0 k2 l0 a1 a2 t330 t331 t332 x10_2 (wrap64 (x11_2 - 1))) else (some false)) else (none)) else (none))) else (camshaftlaw14_RtaAccepts.l0 k2 l0 a1 a2 t330 t331 t332 x10_2 (wrap64 (x11_2 - 1)))) else (if t332 = 0 then (if x11_2 ≥ (t330.length : Int) then (some false) else (if 0 ≤ x11_2 then (if x11_2 < (t330.length : Int) then (if (rd t330 x11_2) = t350 then (camshaftlaw14_RtaAccepts.l0 k2 l0 a1 a2 t330 t331 t332 x11_2 (wrap64 (x11_2 - 1))) else (some false)) else (none)) else (none))) else (camshaftlaw14_RtaAccepts.l0 k2 l0 a1 a2 t330 t331 t332 x11_2 (wrap64 (x11_2 - 1))))) = some r := H
              have A19 := Aside0.mk A190
              clear A190
              by_cases c20 : t351 = 0
              · rw [if_pos c20] at H
                have c20b0 : (t351 == 0) = true := beq_iff_eq.mpr c20
                have c20b1 : (t351 != 0) = false := bne_eq_false_iff_eq.mpr c20
                clear c20
                by_cases c21 : t332 = 0
                · rw [if_pos c21] at H
                  have c21b0 : (t332 == 0) = true := beq_iff_eq.mpr c21
                  have c21b1 : (t332 != 0) = false := bne_eq_false_iff_eq.mpr c21
                  clear c21
                  by_cases c22 : x11_2 ≥ (t330.length : Int)
                  · rw [if_pos c22] at H
                    have c22b0 : decide ((t330.length : Int) ≤ x11_2) = true := decide_eq_true c22
                    clear c22
                    obtain rfl := Option.some.inj H
                    cases hr
                  · rw [if_neg c22] at H
                    have c22b0 : decide ((t330.length : Int) ≤ x11_2) = false := decide_eq_false c22
                    clear c22
                    by_cases c25 : 0 ≤ x11_2
                    · rw [if_pos c25] at H
                      have c25b0 : decide (0 ≤ x11_2) = true := decide_eq_true c25
                      clear c25
                      by_cases c26 : x11_2 < (t330.length : Int)
                      · rw [if_pos c26] at H
                        have c26b0 : decide (x11_2 < (t330.length : Int)) = true := decide_eq_true c26
                        clear c26
                        by_cases c27 : (rd t330 x11_2) = t350
                        · rw [if_pos c27] at H
                          have c27b0 : ((rd t330 x11_2) == t350) = true := beq_iff_eq.mpr c27
                          have c27b1 : ((rd t330 x11_2) != t350) = false := bne_eq_false_iff_eq.mpr c27
                          clear c27
                          have H' := Aside0.mk H
                          clear H
                          go_wp2_with (first | ((with_reducible refine gate_callee (f := 14) rfl ?_); refine goesL_ (some 53) rfl rfl Try.func14 (by kernel_rfl) rfl #[.slice A0 l0.length c0, .int .i64 x11_2] rfl (by (try simp only [List.map_toArray, List.map_cons, List.map_nil]); first | done | rfl | (simp only [List.length_drop, List.length_take]; rfl)) ?_; (with_reducible refine (rta_Response.calls k2 _ _ l0 x11_2 t350 t351 _ ?side1 ?side2 A19.out).mono ?_); (case side1 => repeat (first | exact (Kd.C_below HR0.out HB.out) | (with_reducible refine Kd.C_alloc ?_ _) | (with_reducible refine Kd.C_drewN ?_ _) | (with_reducible refine Kd.C_drew ?_))); (case side2 => exact HC0.out); rintro e w28 ⟨rfl, hb⟩; refine ⟨_, rfl, ?_⟩; have n0_ := Aside0.mk (Kd.R_below (by (with_reducible repeat (first | apply Kd.R_alloc | apply Kd.R_drewN | apply Kd.R_drew)); exact HO_7.out) hb); have n1_ := Aside0.mk (below_step (by repeat (first | (with_reducible first | exact HB.out | apply below_alloc | apply pw_below_drewN | apply below_drew1) | exact HB.out)) hb); clear HO_7; clear HB; have HO_7 := n0_; have HB := n1_; clear n0_ n1_; (try clear hb); (try clear hb2); (try clear hk); (try clear hi); obtain ⟨Ao29, co29, eo29⟩ := Kd.R_slice HO_7.out; subst eo29; have p352 : 0 ≤ (x11_2 : Int) := of_decide_eq_true (by first | (with_reducible assumption) | assumption); have q352 : x11_2 < (t330.length : Int) := of_decide_eq_true (by first | (with_reducible assumption) | assumption); obtain ⟨ad352, e352, hx352_0⟩ := Kd.at_int (Kd.R_reads' HO_7.out).2.2 x11_2 p352 q352; cases e352; replace p352 := eq_true p352; replace q352 := eq_true q352))
                          go_roundg k2
                          case measure => have := HJ3.out; have := HK2.out; omega
                          case rel => exact ⟨(x10_2), (wrap64 (x11_2 - 1)), (by first | rfl | (simp; done) | (simp [*]; done)), (by first | rfl | (simp; done) | (simp [*]; done)), H', ⟨by have := HJ3.out; have := HK2.out; omega⟩, ⟨by (with_reducible repeat (first | apply Kd.R_alloc | apply Kd.R_drewN | apply Kd.R_drew)); exact HO_7.out⟩, ⟨by repeat (first | (with_reducible first | exact HB.out | apply below_alloc | apply pw_below_drewN | apply below_drew1) | exact HB.out)⟩⟩
                        · rw [if_neg c27] at H
                          have c27b0 : ((rd t330 x11_2) == t350) = false := beq_eq_false_iff_ne.mpr c27
                          have c27b1 : ((rd t330 x11_2) != t350) = true := bne_iff_ne.mpr c27
                          obtain rfl := Option.some.inj H
                          cases hr
                      · rw [if_neg c26] at H
                        exact absurd H (by simp)
                    · rw [if_neg c25] at H
                      exact absurd H (by simp)
                · rw [if_neg c21] at H
                  have c21b0 : (t332 == 0) = false := beq_eq_false_iff_ne.mpr c21
                  have c21b1 : (t332 != 0) = true := bne_iff_ne.mpr c21
                  have H' := Aside0.mk H
                  clear H
                  go_wp2_with (first | ((with_reducible refine gate_callee (f := 14) rfl ?_); refine goesL_ (some 53) rfl rfl Try.func14 (by kernel_rfl) rfl #[.slice A0 l0.length c0, .int .i64 x11_2] rfl (by (try simp only [List.map_toArray, List.map_cons, List.map_nil]); first | done | rfl | (simp only [List.length_drop, List.length_take]; rfl)) ?_; (with_reducible refine (rta_Response.calls k2 _ _ l0 x11_2 t350 t351 _ ?side1 ?side2 A19.out).mono ?_); (case side1 => repeat (first | exact (Kd.C_below HR0.out HB.out) | (with_reducible refine Kd.C_alloc ?_ _) | (with_reducible refine Kd.C_drewN ?_ _) | (with_reducible refine Kd.C_drew ?_))); (case side2 => exact HC0.out); rintro e w32 ⟨rfl, hb⟩; refine ⟨_, rfl, ?_⟩; have n0_ := Aside0.mk (Kd.R_below (by (with_reducible repeat (first | apply Kd.R_alloc | apply Kd.R_drewN | apply Kd.R_drew)); exact HO_7.out) hb); have n1_ := Aside0.mk (below_step (by repeat (first | (with_reducible first | exact HB.out | apply below_alloc | apply pw_below_drewN | apply below_drew1) | exact HB.out)) hb); clear HO_7; clear HB; have HO_7 := n0_; have HB := n1_; clear n0_ n1_; (try clear hb); (try clear hb2); (try clear hk); (try clear hi)))
                  go_roundg k2
                  case measure => have := HJ3.out; have := HK2.out; omega
                  case rel => exact ⟨(x10_2), (wrap64 (x11_2 - 1)), (by first | rfl | (simp; done) | (simp [*]; done)), (by first | rfl | (simp; done) | (simp [*]; done)), H', ⟨by have := HJ3.out; have := HK2.out; omega⟩, ⟨by (with_reducible repeat (first | apply Kd.R_alloc | apply Kd.R_drewN | apply Kd.R_drew)); exact HO_7.out⟩, ⟨by repeat (first | (with_reducible first | exact HB.out | apply below_alloc | apply pw_below_drewN | apply below_drew1) | exact HB.out)⟩⟩
              · rw [if_neg c20] at H
                have c20b0 : (t351 == 0) = false := beq_eq_false_iff_ne.mpr c20
                have c20b1 : (t351 != 0) = true := bne_iff_ne.mpr c20
                by_cases c33 : t332 = 0
                · rw [if_pos c33] at H
                  have c33b0 : (t332 == 0) = true := beq_iff_eq.mpr c33
                  have c33b1 : (t332 != 0) = false := bne_eq_false_iff_eq.mpr c33
                  clear c33
                  by_cases c34 : x11_2 ≥ (t330.length : Int)
                  · rw [if_pos c34] at H
                    have c34b0 : decide ((t330.length : Int) ≤ x11_2) = true := decide_eq_true c34
                    clear c34
                    obtain rfl := Option.some.inj H
                    cases hr
                  · rw [if_neg c34] at H
                    have c34b0 : decide ((t330.length : Int) ≤ x11_2) = false := decide_eq_false c34
                    clear c34
                    by_cases c37 : 0 ≤ x11_2
                    · rw [if_pos c37] at H
                      have c37b0 : decide (0 ≤ x11_2) = true := decide_eq_true c37
                      clear c37
                      by_cases c38 : x11_2 < (t330.length : Int)
                      · rw [if_pos c38] at H
                        have c38b0 : decide (x11_2 < (t330.length : Int)) = true := decide_eq_true c38
                        clear c38
                        by_cases c39 : (rd t330 x11_2) = t350
                        · rw [if_pos c39] at H
                          have c39b0 : ((rd t330 x11_2) == t350) = true := beq_iff_eq.mpr c39
                          have c39b1 : ((rd t330 x11_2) != t350) = false := bne_eq_false_iff_eq.mpr c39
                          clear c39
                          have H' := Aside0.mk H
                          clear H
                          go_wp2_with (first | ((with_reducible refine gate_callee (f := 14) rfl ?_); refine goesL_ (some 53) rfl rfl Try.func14 (by kernel_rfl) rfl #[.slice A0 l0.length c0, .int .i64 x11_2] rfl (by (try simp only [List.map_toArray, List.map_cons, List.map_nil]); first | done | rfl | (simp only [List.length_drop, List.length_take]; rfl)) ?_; (with_reducible refine (rta_Response.calls k2 _ _ l0 x11_2 t350 t351 _ ?side1 ?side2 A19.out).mono ?_); (case side1 => repeat (first | exact (Kd.C_below HR0.out HB.out) | (with_reducible refine Kd.C_alloc ?_ _) | (with_reducible refine Kd.C_drewN ?_ _) | (with_reducible refine Kd.C_drew ?_))); (case side2 => exact HC0.out); rintro e w40 ⟨rfl, hb⟩; refine ⟨_, rfl, ?_⟩; have n0_ := Aside0.mk (Kd.R_below (by (with_reducible repeat (first | apply Kd.R_alloc | apply Kd.R_drewN | apply Kd.R_drew)); exact HO_7.out) hb); have n1_ := Aside0.mk (below_step (by repeat (first | (with_reducible first | exact HB.out | apply below_alloc | apply pw_below_drewN | apply below_drew1) | exact HB.out)) hb); clear HO_7; clear HB; have HO_7 := n0_; have HB := n1_; clear n0_ n1_; (try clear hb); (try clear hb2); (try clear hk); (try clear hi); obtain ⟨Ao41, co41, eo41⟩ := Kd.R_slice HO_7.out; subst eo41; have p353 : 0 ≤ (x11_2 : Int) := of_decide_eq_true (by first | (with_reducible assumption) | assumption); have q353 : x11_2 < (t330.length : Int) := of_decide_eq_true (by first | (with_reducible assumption) | assumption); obtain ⟨ad353, e353, hx353_0⟩ := Kd.at_int (Kd.R_reads' HO_7.out).2.2 x11_2 p353 q353; cases e353; replace p353 := eq_true p353; replace q353 := eq_true q353))
                          go_roundg k2
                          case measure => have := HJ3.out; have := HK2.out; omega
                          case rel => exact ⟨(x11_2), (wrap64 (x11_2 - 1)), (by first | rfl | (simp; done) | (simp [*]; done)), (by first | rfl | (simp; done) | (simp [*]; done)), H', ⟨by have := HJ3.out; have := HK2.out; omega⟩, ⟨by (with_reducible repeat (first | apply Kd.R_alloc | apply Kd.R_drewN | apply Kd.R_drew)); exact HO_7.out⟩, ⟨by repeat (first | (with_reducible first | exact HB.out | apply below_alloc | apply pw_below_drewN | apply below_drew1) | exact HB.out)⟩⟩
                        · rw [if_neg c39] at H
                          have c39b0 : ((rd t330 x11_2) == t350) = false := beq_eq_false_iff_ne.mpr c39
                          have c39b1 : ((rd t330 x11_2) != t350) = true := bne_iff_ne.mpr c39
                          obtain rfl := Option.some.inj H
                          cases hr
                      · rw [if_neg c38] at H
                        exact absurd H (by simp)
                    · rw [if_neg c37] at H
                      exact absurd H (by simp)
                · rw [if_neg c33] at H
                  have c33b0 : (t332 == 0) = false := beq_eq_false_iff_ne.mpr c33
                  have c33b1 : (t332 != 0) = true := bne_iff_ne.mpr c33
                  have H' := Aside0.mk H
                  clear H
                  go_wp2_with (first | ((with_reducible refine gate_callee (f := 14) rfl ?_); refine goesL_ (some 53) rfl rfl Try.func14 (by kernel_rfl) rfl #[.slice A0 l0.length c0, .int .i64 x11_2] rfl (by (try simp only [List.map_toArray, List.map_cons, List.map_nil]); first | done | rfl | (simp only [List.length_drop, List.length_take]; rfl)) ?_; (with_reducible refine (rta_Response.calls k2 _ _ l0 x11_2 t350 t351 _ ?side1 ?side2 A19.out).mono ?_); (case side1 => repeat (first | exact (Kd.C_below HR0.out HB.out) | (with_reducible refine Kd.C_alloc ?_ _) | (with_reducible refine Kd.C_drewN ?_ _) | (with_reducible refine Kd.C_drew ?_))); (case side2 => exact HC0.out); rintro e w44 ⟨rfl, hb⟩; refine ⟨_, rfl, ?_⟩; have n0_ := Aside0.mk (Kd.R_below (by (with_reducible repeat (first | apply Kd.R_alloc | apply Kd.R_drewN | apply Kd.R_drew)); exact HO_7.out) hb); have n1_ := Aside0.mk (below_step (by repeat (first | (with_reducible first | exact HB.out | apply below_alloc | apply pw_below_drewN | apply below_drew1) | exact HB.out)) hb); clear HO_7; clear HB; have HO_7 := n0_; have HB := n1_; clear n0_ n1_; (try clear hb); (try clear hb2); (try clear hk); (try clear hi)))
                  go_roundg k2
                  case measure => have := HJ3.out; have := HK2.out; omega
                  case rel => exact ⟨(x11_2), (wrap64 (x11_2 - 1)), (by first | rfl | (simp; done) | (simp [*]; done)), (by first | rfl | (simp; done) | (simp [*]; done)), H', ⟨by have := HJ3.out; have := HK2.out; omega⟩, ⟨by (with_reducible repeat (first | apply Kd.R_alloc | apply Kd.R_drewN | apply Kd.R_drew)); exact HO_7.out⟩, ⟨by repeat (first | (with_reducible first | exact HB.out | apply below_alloc | apply pw_below_drewN | apply below_drew1) | exact HB.out)⟩⟩
            · rw [if_neg c18] at H
              have c18b0 : decide (0 ≤ x11_2) = false := decide_eq_false c18
              clear c18
              obtain ⟨y335, hy335⟩ : ∃ y_ : List (S41), y_ = (([] : List (S41))) := ⟨_, rfl⟩
              replace H : (if y335.length + l0.length < 2932031007402 then ((some (y335 ++ l0 : List (S41))).bind fun y338 => (if 0 ≤ a1 then (if a1 < (y338.length : Int) then ((rta_Accept.f k2 (y338.set (a1 : Int).toNat (⟨(rd_T41 y338 a1).f0, (rd_T41 y338 a1).f1, (rd_T41 y338 a1).f2, mn 1048576 (wrap64 (((rd_T41 y338 a1).f3) + (wrap64 (a2)))), (rd_T41 y338 a1).f4, (rd_T41 y338 a1).f5⟩ : S41))).bind fun bt343 => (if t331 = x10_2 then (if ((t332 == 0) == (decide (x10_2 < 0))) = true then (if t332 = 0 then (if bt343.2.2 = 0 then ((camshaftlaw14_known.f k2).bind fun t348 => (some t348)) else (some false)) else (if (t330.length : Int) = 0 then ((camshaftlaw14_known.f k2).bind fun t349 => (some t349)) else (some false))) else (some false)) else (some false))) else (none)) else (none))) else (none)) = some r := by first | (rw [hy335]; with_reducible exact H) | (have H2_ := (Option.bind_some _ _).symm.trans H; rw [hy335]; with_reducible exact H2_) | (have H2_ := (Option.bind_some _ _).symm.trans H; with_reducible exact H2_) | with_reducible exact H | (rw [hy335]; exact H) | exact H
              have Ny335 := Aside0.mk hy335
              clear hy335
              by_cases c45 : y335.length + l0.length < 2932031007402
              · rw [if_pos c45] at H
                have LMc45 := Aside0.mk c45
                clear c45
                obtain ⟨y338, hy338⟩ : ∃ y_ : List (S41), y_ = (y335 ++ l0) := ⟨_, rfl⟩
                replace H : (if 0 ≤ a1 then (if a1 < (y338.length : Int) then ((rta_Accept.f k2 (y338.set (a1 : Int).toNat (⟨(rd_T41 y338 a1).f0, (rd_T41 y338 a1).f1, (rd_T41 y338 a1).f2, mn 1048576 (wrap64 (((rd_T41 y338 a1).f3) + (wrap64 (a2)))), (rd_T41 y338 a1).f4, (rd_T41 y338 a1).f5⟩ : S41))).bind fun bt343 => (if t331 = x10_2 then (if ((t332 == 0) == (decide (x10_2 < 0))) = true then (if t332 = 0 then (if bt343.2.2 = 0 then ((camshaftlaw14_known.f k2).bind fun t348 => (some t348)) else (some false)) else (if (t330.length : Int) = 0 then ((camshaftlaw14_known.f k2).bind fun t349 => (some t349)) else (some false))) else (some false)) else (some false))) else (none)) else (none)) = some r := by first | (rw [hy338]; with_reducible exact H) | (have H2_ := (Option.bind_some _ _).symm.trans H; rw [hy338]; with_reducible exact H2_) | (have H2_ := (Option.bind_some _ _).symm.trans H; with_reducible exact H2_) | with_reducible exact H | (rw [hy338]; exact H) | exact H
                have Ny338 := Aside0.mk hy338
                clear hy338
                by_cases c46 : 0 ≤ a1
                · rw [if_pos c46] at H
                  have c46b0 : decide (0 ≤ a1) = true := decide_eq_true c46
                  clear c46
                  by_cases c47 : a1 < (y338.length : Int)
                  · rw [if_pos c47] at H
                    have c47b0 : decide (a1 < (y338.length : Int)) = true := decide_eq_true c47
                    clear c47
                    obtain ⟨ji48, hji48⟩ : ∃ j_ : Int, (mn 1048576 (wrap64 (((rd_T41 y338 a1).f3) + (wrap64 (a2))))) = j_ := ⟨_, rfl⟩
                    replace H : ((rta_Accept.f k2 (y338.set (a1 : Int).toNat (⟨(rd_T41 y338 a1).f0, (rd_T41 y338 a1).f1, (rd_T41 y338 a1).f2, ji48, (rd_T41 y338 a1).f4, (rd_T41 y338 a1).f5⟩ : S41))).bind fun bt343 => (if t331 = x10_2 then (if ((t332 == 0) == (decide (x10_2 < 0))) = true then (if t332 = 0 then (if bt343.2.2 = 0 then ((camshaftlaw14_known.f k2).bind fun t348 => (some t348)) else (some false)) else (if (t330.length : Int) = 0 then ((camshaftlaw14_known.f k2).bind fun t349 => (some t349)) else (some false))) else (some false)) else (some false))) = some r := by first | (rw [hji48] at H; exact H) | (simp only [hji48] at H ⊢; exact H)
                    have hji48_ : (if (wrap64 (((rd_T41 y338 a1).f3) + (wrap64 (a2)))) < 1048576 then (wrap64 (((rd_T41 y338 a1).f3) + (wrap64 (a2)))) else 1048576) = ji48 := hji48
                    obtain ⟨y342, hy342⟩ : ∃ y_ : List (S41), y_ = (y338.set (a1 : Int).toNat (⟨(rd_T41 y338 a1).f0, (rd_T41 y338 a1).f1, (rd_T41 y338 a1).f2, ji48, (rd_T41 y338 a1).f4, (rd_T41 y338 a1).f5⟩ : S41)) := ⟨_, rfl⟩
                    replace H : ((rta_Accept.f k2 y342).bind fun bt343 => (if t331 = x10_2 then (if ((t332 == 0) == (decide (x10_2 < 0))) = true then (if t332 = 0 then (if bt343.2.2 = 0 then ((camshaftlaw14_known.f k2).bind fun t348 => (some t348)) else (some false)) else (if (t330.length : Int) = 0 then ((camshaftlaw14_known.f k2).bind fun t349 => (some t349)) else (some false))) else (some false)) else (some false))) = some r := by first | (rw [hy342]; with_reducible exact H) | (have H2_ := (Option.bind_some _ _).symm.trans H; rw [hy342]; with_reducible exact H2_) | (have H2_ := (Option.bind_some _ _).symm.trans H; with_reducible exact H2_) | with_reducible exact H | (rw [hy342]; exact H) | exact H
                    have Ny342 := Aside0.mk hy342
                    clear hy342
                    replace H := Option.bind_eq_some_iff.mp H
                    obtain ⟨⟨t343, t344, t345⟩, A500, H⟩ := H
                    replace H : (if t331 = x10_2 then (if ((t332 == 0) == (decide (x10_2 < 0))) = true then (if t332 = 0 then (if t345 = 0 then ((camshaftlaw14_known.f k2).bind fun t348 => (some t348)) else (some false)) else (if (t330.length : Int) = 0 then ((camshaftlaw14_known.f k2).bind fun t349 => (some t349)) else (some false))) else (some false)) else (some false)) = some r := H
                    have A50 := Aside0.mk A500
                    clear A500
                    by_cases c51 : t331 = x10_2
                    · rw [if_pos c51] at H
                      have c51b0 : (t331 == x10_2) = true := beq_iff_eq.mpr c51
                      have c51b1 : (t331 != x10_2) = false := bne_eq_false_iff_eq.mpr c51
                      clear c51
                      by_cases c52 : ((t332 == 0) == (decide (x10_2 < 0))) = true
                      · rw [if_pos c52] at H
                        have c52b0 : ((t332 == 0) == (decide (x10_2 < 0))) = true := c52
                        (try (have c52b1 : decide ((t332 == 0) = (decide (x10_2 < 0))) = true := by simpa using c52))
                        (try (have c52b2 : ((t332 == 0) == (decide (x10_2 < 0))) = true := by simpa using c52))
                        clear c52
                        by_cases c53 : t332 = 0
                        · rw [if_pos c53] at H
                          have c53b0 : (t332 == 0) = true := beq_iff_eq.mpr c53
                          have cz53 : decide (x10_2 < 0) = true := by rw [c53b0] at c52b0; simpa using c52b0
                          have c53b1 : (t332 != 0) = false := bne_eq_false_iff_eq.mpr c53
                          clear c53
                          by_cases c54 : t345 = 0
                          · rw [if_pos c54] at H
                            have c54b0 : (t345 == 0) = true := beq_iff_eq.mpr c54
                            have c54b1 : (t345 != 0) = false := bne_eq_false_iff_eq.mpr c54
                            clear c54
                            replace H := Option.bind_eq_some_iff.mp H
                            obtain ⟨t348, A550, H⟩ := H
                            replace H : (some t348) = some r := H
                            have A55 := Aside0.mk A550
                            clear A550
                            obtain rfl := Option.some.inj H
                            go_wp2_with (first | ((with_reducible refine gate_dst (N := 75) rfl ?_); (try (refine gate_guard (by rfl) ?_; dsimp only)); refine Kd.R_lit k41 _ 41 ?hg (N := 75) ?hd (xs := ([] : List (S41))) (inner := []) (ok := fun _ => True) (okp := fun _ => True) ?hr ?hp (fun _ hk => hk) trivial (Below.refl _ _) (Nat.le_refl _) (by simp) ?_; (case hd => rfl); (case hg => rfl); (case hr => first | (go_simp; done) | (go_simp; rfl)); (case hp => exact (Reps.none _ _)); intro v336 w56 ho57 hb hg_ hnew_; clear hg_ hnew_; (first | rw [← Ny335.out] at ho57 | (simp only [Int.reduceToNat] at ho57; rw [← Ny335.out] at ho57)); have n0_ := Aside0.mk (Kd.R_below (by (with_reducible repeat (first | apply Kd.R_alloc | apply Kd.R_drewN | apply Kd.R_drew)); exact HO_7.out) hb); have n1_ := Aside0.mk (Kd.R_lower ho57 (below_size (by repeat (first | (with_reducible first | exact HB.out | apply below_alloc | apply pw_below_drewN | apply below_drew1) | exact HB.out)))); have n2_ := Aside0.mk (below_step (by repeat (first | (with_reducible first | exact HB.out | apply below_alloc | apply pw_below_drewN | apply below_drew1) | exact HB.out)) hb); clear HO_7; clear HB; have HO_7 := n0_; have HO337 := n1_; have HB := n2_; clear n0_ n1_ n2_; clear hb ho57) | ((with_reducible refine gate_builtin (b := .append) (xs := #[.tmp 75, .tmp 76]) rfl ?_); (try (refine gate_guard (by rfl) ?_; dsimp only)); at_builtin; refine Kd.R_append_rows k41 (w0 := w) w.heap.size rfl (.tmp 75) (.tmp 76) 22 41 (.agg #[(.int .i64 0), (.int .i64 0), (.int .i64 0), (.int .i64 0), (.int .i64 0), (.int .i64 0)]) 48 rfl Try.underlying22 info41 rfl (by decide) (by omega) v336 y335 l0 _ _ _ (fun _ => True) (fun _ => False) rfl rfl ?aO ?aR (fun _ _ h => h) (fun _ h => h.elim) ?aF ?aB ?aS ?aL ?_; (case aR => repeat (first | exact (Kd.C_below HR0.out HB.out) | (with_reducible refine Kd.C_alloc ?_ _) | (with_reducible refine Kd.C_drewN ?_ _) | (with_reducible refine Kd.C_drew ?_))); (case aB => exact (by repeat (first | (with_reducible first | exact HB.out | apply below_alloc | apply pw_below_drewN | apply below_drew1) | exact HB.out))); (case aF => exact (fun _ _ => trivial)); (case aO => exact (by (with_reducible repeat (first | apply Kd.R_alloc | apply Kd.R_drewN | apply Kd.R_drew)); exact HO337.out)); (case aS => exact (below_size (by repeat (first | (with_reducible first | exact HB.out | apply below_alloc | apply pw_below_drewN | apply below_drew1) | exact HB.out)))); (case aL => have := LMc45.out; omega); intro v339 w58 ho hb hg hat; rw [← Ny338.out] at ho; have n0_ := Aside0.mk (Kd.R_over' (by (with_reducible repeat (first | apply Kd.R_alloc | apply Kd.R_drewN | apply Kd.R_drew)); exact HO_7.out) (Kd.R_typed (by (with_reducible repeat (first | apply Kd.R_alloc | apply Kd.R_drewN | apply Kd.R_drew)); exact HO337.out)) (by decide) hg); have n1_ := Aside0.mk (hb); have n2_ := Aside0.mk (ho); clear HO_7; clear HB; clear HO337; have HO_7 := n0_; have HB := n1_; have HO340 := n2_; clear n0_ n1_ n2_; clear ho hb hg hat; obtain ⟨Ao59, co59, eo59⟩ := Kd.R_slice HO340.out; subst eo59; have p341 : 0 ≤ (a1 : Int) := of_decide_eq_true (by first | (with_reducible assumption) | assumption); have q341 : a1 < (y338.length : Int) := of_decide_eq_true (by first | (with_reducible assumption) | assumption); obtain ⟨ad341, e341, hx341_0, hx341_1, hx341_2, hx341_3, hx341_4, hx341_5⟩ := at_T41 (Kd.R_reads' HO340.out).2.2 a1 p341 q341; cases e341; replace p341 := eq_true p341; replace q341 := eq_true q341; have p49 : 0 ≤ (a1 : Int) := of_decide_eq_true (by first | (with_reducible assumption) | assumption); have q49 : (a1 : Int) < ((y338.length : Int) : Int) := of_decide_eq_true (by first | (with_reducible assumption) | assumption); obtain ⟨go49, co49, eo49, gb49, gl49, cl49, HG49⟩ := Kd.R_form HO340.out (by omega); (first | cases eo49 | (injection eo49 with ea_ en_ ec_; (first | subst ea_ | (injection ea_ with ea_; subst ea_)); subst ec_; clear en_)); have GB49 := Aside0.mk gb49; have GG49 := Aside0.mk HG49; clear gb49 gl49 HG49; (first | simp only [add_plain] at hx341_0 | skip); (first | simp only [add_plain] at hx341_1 | skip); (first | simp only [add_plain] at hx341_2 | skip); (first | simp only [add_plain] at hx341_3 | skip); (first | simp only [add_plain] at hx341_4 | skip); (first | simp only [add_plain] at hx341_5 | skip); obtain ⟨ce49, hcl49, hM49, hcc49, hfr49⟩ := Kd.R_elem HO340.out z41 (a1 : Int) p49 q49; obtain rfl := k41_openM hM49; have hx49_0 : w58.cell? ⟨go49, (a1 : Int).toNat * 6, none⟩ = some (.int .i64 ((rd_T41 y338 a1).f0)) := hcc49 0 _ rfl; have hx49_1 : w58.cell? ⟨go49, (a1 : Int).toNat * 6 + 1, none⟩ = some (.int .i64 ((rd_T41 y338 a1).f1)) := hcc49 1 _ rfl; have hx49_2 : w58.cell? ⟨go49, (a1 : Int).toNat * 6 + 2, none⟩ = some (.int .i64 ((rd_T41 y338 a1).f2)) := hcc49 2 _ rfl; have hx49_3 : w58.cell? ⟨go49, (a1 : Int).toNat * 6 + 3, none⟩ = some (.int .i64 ((rd_T41 y338 a1).f3)) := hcc49 3 _ rfl; have hx49_4 : w58.cell? ⟨go49, (a1 : Int).toNat * 6 + 4, none⟩ = some (.int .i64 ((rd_T41 y338 a1).f4)) := hcc49 4 _ rfl; have hx49_5 : w58.cell? ⟨go49, (a1 : Int).toNat * 6 + 5, none⟩ = some (.int .i64 ((rd_T41 y338 a1).f5)) := hcc49 5 _ rfl; have hf49_0 : w58.frozen? ⟨go49, (a1 : Int).toNat * 6, none⟩ = false := hfr49 0; have hf49_1 : w58.frozen? ⟨go49, (a1 : Int).toNat * 6 + 1, none⟩ = false := hfr49 1; have hf49_2 : w58.frozen? ⟨go49, (a1 : Int).toNat * 6 + 2, none⟩ = false := hfr49 2; have hf49_3 : w58.frozen? ⟨go49, (a1 : Int).toNat * 6 + 3, none⟩ = false := hfr49 3; have hf49_4 : w58.frozen? ⟨go49, (a1 : Int).toNat * 6 + 4, none⟩ = false := hfr49 4; have hf49_5 : w58.frozen? ⟨go49, (a1 : Int).toNat * 6 + 5, none⟩ = false := hfr49 5; clear hcl49 hcc49 hfr49 hM49; replace p49 := eq_true p49; replace q49 := eq_true q49; have HX60 := Aside0.mk (show Kd.R k41 41 w58 w.heap.size (fun _ => True) (.slice (some ⟨go49, 0, none⟩) y338.length co59) y338 from (by (with_reducible repeat (first | apply Kd.R_alloc | apply Kd.R_drewN | apply Kd.R_drew)); exact HO340.out)); obtain ⟨ce60, hcl60, hM60, hcc60, hfr60⟩ := Kd.R_elem HX60.out z41 (a1 : Int) (of_decide_eq_true (by first | (with_reducible assumption) | assumption)) (by have h_ : (a1 : Int) < ((y338.length : Int) : Int) := of_decide_eq_true (by first | (with_reducible assumption) | assumption); first | exact h_ | (have e_ := (Kd.R_reads' HO340.out).1; omega) | simpa using h_); obtain rfl := k41_openM hM60; have HP60 := Kd.R_seg HX60.out (a1 : Int) (of_decide_eq_true (by first | (with_reducible assumption) | assumption)) (by have h_ : (a1 : Int) < ((y338.length : Int) : Int) := of_decide_eq_true (by first | (with_reducible assumption) | assumption); first | exact h_ | (have e_ := (Kd.R_reads' HO340.out).1; omega) | simpa using h_) (seg := [.int .i64 ji48]) (j := 3) hcl60 hcc60 (show 4 ≤ 6 from by decide) (x' := (⟨(rd_T41 y338 a1).f0, (rd_T41 y338 a1).f1, (rd_T41 y338 a1).f2, ji48, (rd_T41 y338 a1).f4, (rd_T41 y338 a1).f5⟩ : S41)) (k41_mkM _ _ _ (⟨(rd_T41 y338 a1).f0, (rd_T41 y338 a1).f1, (rd_T41 y338 a1).f2, ji48, (rd_T41 y338 a1).f4, (rd_T41 y338 a1).f5⟩ : S41) ) (fun _ hk => hk); have hx60_3 := hcc60 3 _ rfl; (try simp only [show (k41).sz = 6 from rfl, Nat.mul_one, Nat.add_zero] at hx60_3); have hf60_3 := hfr60 3; (try simp only [show (k41).sz = 6 from rfl, Nat.mul_one, Nat.add_zero] at hf60_3); clear hcl60 hcc60 hfr60 hM60) | ((with_reducible refine gate_store (t := 3) (p := 90) rfl ?_); refine store_event (t := 3) (p := 90) (v := ?vo_w61) (w1 := (w58.setCell ⟨go49, (a1 : Int).toNat * 6 + 3, none⟩ (.int .i64 ji48))) ?hg ?ho ?hn ?hr ?_; (case ho => rfl); (case hg => rfl); (case hn => rfl); (case hr => first | (go_simp; done) | (go_simp; rfl)); intro w61 hw; have hg : w58.grownBy w61 (some go49) := (by rw [hw]; exact HP60.2); have hp_ : Kd.R k41 41 w61 w.heap.size (fun _ => True) (.slice (some ⟨go49, 0, none⟩) y338.length co59) y342 := (by rw [hw, Ny342.out]; exact HP60.1); clear HP60; have n0_ := Aside0.mk (Kd.R_over' (v := (.slice (some ⟨go49, 0, none⟩) y338.length co59)) (by (with_reducible repeat (first | apply Kd.R_alloc | apply Kd.R_drewN | apply Kd.R_drew)); exact HO_7.out) (Kd.R_typed HO340.out) (by decide) hg); have n1_ := Aside0.mk (hp_); have n2_ := Aside0.mk ((by rw [hw]; exact below_set (HB.out) GB49.out : Below w.heap.size w w61)); clear HO_7; clear HO340; clear HB; have HO_7 := n0_; have HO340 := n1_; have HB := n2_; clear n0_ n1_ n2_; clear hg hw hp_) | ((with_reducible refine gate_callee (f := 16) rfl ?_); refine goesL_ (some 93) rfl rfl Try.func16 (by kernel_rfl) rfl #[.slice (some ⟨go49, 0, none⟩) y342.length co59] rfl (by (try simp only [List.map_toArray, List.map_cons, List.map_nil]); first | done | (rw [show y342.length = y338.length from (Kd.R_reads' HO340.out).1.symm] <;> rfl) | rfl | (simp only [List.length_drop, List.length_take]; rfl)) ?_; (with_reducible refine (rta_Accept.calls k2 _ _ y342 t343 t344 t345 _ ?side1 ?side2 A50.out).mono ?_); (case side1 => repeat (first | exact (Kd.R_reads' HO340.out).2.2 | (with_reducible refine Kd.C_alloc ?_ _) | (with_reducible refine Kd.C_drewN ?_ _) | (with_reducible refine Kd.C_drew ?_))); (case side2 => rw [show y342.length = y338.length from (Kd.R_reads' HO340.out).1.symm]; exact (Kd.R_reads' HO340.out).2.1); rintro e w62 ⟨v346, rfl, ho0, hb⟩; refine ⟨_, rfl, ?_⟩; have n0_ := Aside0.mk (Kd.R_elder' (by (with_reducible repeat (first | apply Kd.R_alloc | apply Kd.R_drewN | apply Kd.R_drew)); exact HO_7.out) (Kd.R_base ho0) hb); have n1_ := Aside0.mk (Kd.R_below (by (with_reducible repeat (first | apply Kd.R_alloc | apply Kd.R_drewN | apply Kd.R_drew)); exact HO340.out) hb); have n2_ := Aside0.mk (Kd.R_lower (Kd.R_new' ho0 (Kd.R_lt (by (with_reducible repeat (first | apply Kd.R_alloc | apply Kd.R_drewN | apply Kd.R_drew)); exact HO_7.out))) (below_size (by repeat (first | (with_reducible first | exact HB.out | apply below_alloc | apply pw_below_drewN | apply below_drew1) | exact HB.out)))); have n3_ := Aside0.mk (below_step (by repeat (first | (with_reducible first | exact HB.out | apply below_alloc | apply pw_below_drewN | apply below_drew1) | exact HB.out)) hb); clear HO_7; clear HO340; clear HB; have HO_7 := n0_; have HO340 := n1_; have HO347 := n2_; have HB := n3_; clear n0_ n1_ n2_ n3_; (try clear hb); (try clear hb2); (try clear hk); (try clear hi); (try clear ho0)) | (go_at_call 10; (with_reducible refine (camshaftlaw14_known.calls k2  t348 _ A55.out).mono ?_); rintro e w63 ⟨rfl, hb⟩; have n0_ := Aside0.mk (Kd.R_below (by (with_reducible repeat (first | apply Kd.R_alloc | apply Kd.R_drewN | apply Kd.R_drew)); exact HO_7.out) hb); have n1_ := Aside0.mk (Kd.R_below (by (with_reducible repeat (first | apply Kd.R_alloc | apply Kd.R_drewN | apply Kd.R_drew)); exact HO340.out) hb); have n2_ := Aside0.mk (Kd.R_below (by (with_reducible repeat (first | apply Kd.R_alloc | apply Kd.R_drewN | apply Kd.R_drew)); exact HO347.out) hb); have n3_ := Aside0.mk (below_step (by repeat (first | (with_reducible first | exact HB.out | apply below_alloc | apply pw_below_drewN | apply below_drew1) | exact HB.out)) hb); clear HO_7; clear HO340; clear HO347; clear HB; have HO_7 := n0_; have HO340 := n1_; have HO347 := n2_; have HB := n3_; clear n0_ n1_ n2_ n3_; (try clear hb); (try clear hb2); (try clear hk); (try clear hi)))
                            go_ret
                            exact ⟨by first | rfl | (simp [errW_none, errW_some] <;> rfl) | (simp only [← hji48]; first | rfl | (simp [errW_none, errW_some] <;> rfl)) | (simp [*, errW_none, errW_some] <;> rfl), by repeat (first | (with_reducible first | exact HB.out | apply below_alloc | apply pw_below_drewN | apply below_drew1) | exact HB.out)⟩
                          · rw [if_neg c54] at H
                            have c54b0 : (t345 == 0) = false := beq_eq_false_iff_ne.mpr c54
                            have c54b1 : (t345 != 0) = true := bne_iff_ne.mpr c54
                            obtain rfl := Option.some.inj H
                            cases hr
                        · rw [if_neg c53] at H
                          have c53b0 : (t332 == 0) = false := beq_eq_false_iff_ne.mpr c53
                          have cz53 : decide (x10_2 < 0) = false := by rw [c53b0] at c52b0; simpa using c52b0
                          have c53b1 : (t332 != 0) = true := bne_iff_ne.mpr c53
                          by_cases c71 : (t330.length : Int) = 0
                          · rw [if_pos c71] at H
                            have c71b0 : ((t330.length : Int) == 0) = true := beq_iff_eq.mpr c71
                            have c71b1 : ((t330.length : Int) != 0) = false := bne_eq_false_iff_eq.mpr c71
                            clear c71
                            replace H := Option.bind_eq_some_iff.mp H
                            obtain ⟨t349, A720, H⟩ := H
                            replace H : (some t349) = some r := H
                            have A72 := Aside0.mk A720
                            clear A720
                            obtain rfl := Option.some.inj H
                            go_wp2_with (first | ((with_reducible refine gate_dst (N := 75) rfl ?_); (try (refine gate_guard (by rfl) ?_; dsimp only)); refine Kd.R_lit k41 _ 41 ?hg (N := 75) ?hd (xs := ([] : List (S41))) (inner := []) (ok := fun _ => True) (okp := fun _ => True) ?hr ?hp (fun _ hk => hk) trivial (Below.refl _ _) (Nat.le_refl _) (by simp) ?_; (case hd => rfl); (case hg => rfl); (case hr => first | (go_simp; done) | (go_simp; rfl)); (case hp => exact (Reps.none _ _)); intro v336 w73 ho74 hb hg_ hnew_; clear hg_ hnew_; (first | rw [← Ny335.out] at ho74 | (simp only [Int.reduceToNat] at ho74; rw [← Ny335.out] at ho74)); have n0_ := Aside0.mk (Kd.R_below (by (with_reducible repeat (first | apply Kd.R_alloc | apply Kd.R_drewN | apply Kd.R_drew)); exact HO_7.out) hb); have n1_ := Aside0.mk (Kd.R_lower ho74 (below_size (by repeat (first | (with_reducible first | exact HB.out | apply below_alloc | apply pw_below_drewN | apply below_drew1) | exact HB.out)))); have n2_ := Aside0.mk (below_step (by repeat (first | (with_reducible first | exact HB.out | apply below_alloc | apply pw_below_drewN | apply below_drew1) | exact HB.out)) hb); clear HO_7; clear HB; have HO_7 := n0_; have HO337 := n1_; have HB := n2_; clear n0_ n1_ n2_; clear hb ho74) | ((with_reducible refine gate_builtin (b := .append) (xs := #[.tmp 75, .tmp 76]) rfl ?_); (try (refine gate_guard (by rfl) ?_; dsimp only)); at_builtin; refine Kd.R_append_rows k41 (w0 := w) w.heap.size rfl (.tmp 75) (.tmp 76) 22 41 (.agg #[(.int .i64 0), (.int .i64 0), (.int .i64 0), (.int .i64 0), (.int .i64 0), (.int .i64 0)]) 48 rfl Try.underlying22 info41 rfl (by decide) (by omega) v336 y335 l0 _ _ _ (fun _ => True) (fun _ => False) rfl rfl ?aO ?aR (fun _ _ h => h) (fun _ h => h.elim) ?aF ?aB ?aS ?aL ?_; (case aR => repeat (first | exact (Kd.C_below HR0.out HB.out) | (with_reducible refine Kd.C_alloc ?_ _) | (with_reducible refine Kd.C_drewN ?_ _) | (with_reducible refine Kd.C_drew ?_))); (case aB => exact (by repeat (first | (with_reducible first | exact HB.out | apply below_alloc | apply pw_below_drewN | apply below_drew1) | exact HB.out))); (case aF => exact (fun _ _ => trivial)); (case aO => exact (by (with_reducible repeat (first | apply Kd.R_alloc | apply Kd.R_drewN | apply Kd.R_drew)); exact HO337.out)); (case aS => exact (below_size (by repeat (first | (with_reducible first | exact HB.out | apply below_alloc | apply pw_below_drewN | apply below_drew1) | exact HB.out)))); (case aL => have := LMc45.out; omega); intro v339 w75 ho hb hg hat; rw [← Ny338.out] at ho; have n0_ := Aside0.mk (Kd.R_over' (by (with_reducible repeat (first | apply Kd.R_alloc | apply Kd.R_drewN | apply Kd.R_drew)); exact HO_7.out) (Kd.R_typed (by (with_reducible repeat (first | apply Kd.R_alloc | apply Kd.R_drewN | apply Kd.R_drew)); exact HO337.out)) (by decide) hg); have n1_ := Aside0.mk (hb); have n2_ := Aside0.mk (ho); clear HO_7; clear HB; clear HO337; have HO_7 := n0_; have HB := n1_; have HO340 := n2_; clear n0_ n1_ n2_; clear ho hb hg hat; obtain ⟨Ao76, co76, eo76⟩ := Kd.R_slice HO340.out; subst eo76; have p341 : 0 ≤ (a1 : Int) := of_decide_eq_true (by first | (with_reducible assumption) | assumption); have q341 : a1 < (y338.length : Int) := of_decide_eq_true (by first | (with_reducible assumption) | assumption); obtain ⟨ad341, e341, hx341_0, hx341_1, hx341_2, hx341_3, hx341_4, hx341_5⟩ := at_T41 (Kd.R_reads' HO340.out).2.2 a1 p341 q341; cases e341; replace p341 := eq_true p341; replace q341 := eq_true q341; have p49 : 0 ≤ (a1 : Int) := of_decide_eq_true (by first | (with_reducible assumption) | assumption); have q49 : (a1 : Int) < ((y338.length : Int) : Int) := of_decide_eq_true (by first | (with_reducible assumption) | assumption); obtain ⟨go49, co49, eo49, gb49, gl49, cl49, HG49⟩ := Kd.R_form HO340.out (by omega); (first | cases eo49 | (injection eo49 with ea_ en_ ec_; (first | subst ea_ | (injection ea_ with ea_; subst ea_)); subst ec_; clear en_)); have GB49 := Aside0.mk gb49; have GG49 := Aside0.mk HG49; clear gb49 gl49 HG49; (first | simp only [add_plain] at hx341_0 | skip); (first | simp only [add_plain] at hx341_1 | skip); (first | simp only [add_plain] at hx341_2 | skip); (first | simp only [add_plain] at hx341_3 | skip); (first | simp only [add_plain] at hx341_4 | skip); (first | simp only [add_plain] at hx341_5 | skip); obtain ⟨ce49, hcl49, hM49, hcc49, hfr49⟩ := Kd.R_elem HO340.out z41 (a1 : Int) p49 q49; obtain rfl := k41_openM hM49; have hx49_0 : w75.cell? ⟨go49, (a1 : Int).toNat * 6, none⟩ = some (.int .i64 ((rd_T41 y338 a1).f0)) := hcc49 0 _ rfl; have hx49_1 : w75.cell? ⟨go49, (a1 : Int).toNat * 6 + 1, none⟩ = some (.int .i64 ((rd_T41 y338 a1).f1)) := hcc49 1 _ rfl; have hx49_2 : w75.cell? ⟨go49, (a1 : Int).toNat * 6 + 2, none⟩ = some (.int .i64 ((rd_T41 y338 a1).f2)) := hcc49 2 _ rfl; have hx49_3 : w75.cell? ⟨go49, (a1 : Int).toNat * 6 + 3, none⟩ = some (.int .i64 ((rd_T41 y338 a1).f3)) := hcc49 3 _ rfl; have hx49_4 : w75.cell? ⟨go49, (a1 : Int).toNat * 6 + 4, none⟩ = some (.int .i64 ((rd_T41 y338 a1).f4)) := hcc49 4 _ rfl; have hx49_5 : w75.cell? ⟨go49, (a1 : Int).toNat * 6 + 5, none⟩ = some (.int .i64 ((rd_T41 y338 a1).f5)) := hcc49 5 _ rfl; have hf49_0 : w75.frozen? ⟨go49, (a1 : Int).toNat * 6, none⟩ = false := hfr49 0; have hf49_1 : w75.frozen? ⟨go49, (a1 : Int).toNat * 6 + 1, none⟩ = false := hfr49 1; have hf49_2 : w75.frozen? ⟨go49, (a1 : Int).toNat * 6 + 2, none⟩ = false := hfr49 2; have hf49_3 : w75.frozen? ⟨go49, (a1 : Int).toNat * 6 + 3, none⟩ = false := hfr49 3; have hf49_4 : w75.frozen? ⟨go49, (a1 : Int).toNat * 6 + 4, none⟩ = false := hfr49 4; have hf49_5 : w75.frozen? ⟨go49, (a1 : Int).toNat * 6 + 5, none⟩ = false := hfr49 5; clear hcl49 hcc49 hfr49 hM49; replace p49 := eq_true p49; replace q49 := eq_true q49; have HX77 := Aside0.mk (show Kd.R k41 41 w75 w.heap.size (fun _ => True) (.slice (some ⟨go49, 0, none⟩) y338.length co76) y338 from (by (with_reducible repeat (first | apply Kd.R_alloc | apply Kd.R_drewN | apply Kd.R_drew)); exact HO340.out)); obtain ⟨ce77, hcl77, hM77, hcc77, hfr77⟩ := Kd.R_elem HX77.out z41 (a1 : Int) (of_decide_eq_true (by first | (with_reducible assumption) | assumption)) (by have h_ : (a1 : Int) < ((y338.length : Int) : Int) := of_decide_eq_true (by first | (with_reducible assumption) | assumption); first | exact h_ | (have e_ := (Kd.R_reads' HO340.out).1; omega) | simpa using h_); obtain rfl := k41_openM hM77; have HP77 := Kd.R_seg HX77.out (a1 : Int) (of_decide_eq_true (by first | (with_reducible assumption) | assumption)) (by have h_ : (a1 : Int) < ((y338.length : Int) : Int) := of_decide_eq_true (by first | (with_reducible assumption) | assumption); first | exact h_ | (have e_ := (Kd.R_reads' HO340.out).1; omega) | simpa using h_) (seg := [.int .i64 ji48]) (j := 3) hcl77 hcc77 (show 4 ≤ 6 from by decide) (x' := (⟨(rd_T41 y338 a1).f0, (rd_T41 y338 a1).f1, (rd_T41 y338 a1).f2, ji48, (rd_T41 y338 a1).f4, (rd_T41 y338 a1).f5⟩ : S41)) (k41_mkM _ _ _ (⟨(rd_T41 y338 a1).f0, (rd_T41 y338 a1).f1, (rd_T41 y338 a1).f2, ji48, (rd_T41 y338 a1).f4, (rd_T41 y338 a1).f5⟩ : S41) ) (fun _ hk => hk); have hx77_3 := hcc77 3 _ rfl; (try simp only [show (k41).sz = 6 from rfl, Nat.mul_one, Nat.add_zero] at hx77_3); have hf77_3 := hfr77 3; (try simp only [show (k41).sz = 6 from rfl, Nat.mul_one, Nat.add_zero] at hf77_3); clear hcl77 hcc77 hfr77 hM77) | ((with_reducible refine gate_store (t := 3) (p := 90) rfl ?_); refine store_event (t := 3) (p := 90) (v := ?vo_w78) (w1 := (w75.setCell ⟨go49, (a1 : Int).toNat * 6 + 3, none⟩ (.int .i64 ji48))) ?hg ?ho ?hn ?hr ?_; (case ho => rfl); (case hg => rfl); (case hn => rfl); (case hr => first | (go_simp; done) | (go_simp; rfl)); intro w78 hw; have hg : w75.grownBy w78 (some go49) := (by rw [hw]; exact HP77.2); have hp_ : Kd.R k41 41 w78 w.heap.size (fun _ => True) (.slice (some ⟨go49, 0, none⟩) y338.length co76) y342 := (by rw [hw, Ny342.out]; exact HP77.1); clear HP77; have n0_ := Aside0.mk (Kd.R_over' (v := (.slice (some ⟨go49, 0, none⟩) y338.length co76)) (by (with_reducible repeat (first | apply Kd.R_alloc | apply Kd.R_drewN | apply Kd.R_drew)); exact HO_7.out) (Kd.R_typed HO340.out) (by decide) hg); have n1_ := Aside0.mk (hp_); have n2_ := Aside0.mk ((by rw [hw]; exact below_set (HB.out) GB49.out : Below w.heap.size w w78)); clear HO_7; clear HO340; clear HB; have HO_7 := n0_; have HO340 := n1_; have HB := n2_; clear n0_ n1_ n2_; clear hg hw hp_) | ((with_reducible refine gate_callee (f := 16) rfl ?_); refine goesL_ (some 93) rfl rfl Try.func16 (by kernel_rfl) rfl #[.slice (some ⟨go49, 0, none⟩) y342.length co76] rfl (by (try simp only [List.map_toArray, List.map_cons, List.map_nil]); first | done | (rw [show y342.length = y338.length from (Kd.R_reads' HO340.out).1.symm] <;> rfl) | rfl | (simp only [List.length_drop, List.length_take]; rfl)) ?_; (with_reducible refine (rta_Accept.calls k2 _ _ y342 t343 t344 t345 _ ?side1 ?side2 A50.out).mono ?_); (case side1 => repeat (first | exact (Kd.R_reads' HO340.out).2.2 | (with_reducible refine Kd.C_alloc ?_ _) | (with_reducible refine Kd.C_drewN ?_ _) | (with_reducible refine Kd.C_drew ?_))); (case side2 => rw [show y342.length = y338.length from (Kd.R_reads' HO340.out).1.symm]; exact (Kd.R_reads' HO340.out).2.1); rintro e w79 ⟨v346, rfl, ho0, hb⟩; refine ⟨_, rfl, ?_⟩; have n0_ := Aside0.mk (Kd.R_elder' (by (with_reducible repeat (first | apply Kd.R_alloc | apply Kd.R_drewN | apply Kd.R_drew)); exact HO_7.out) (Kd.R_base ho0) hb); have n1_ := Aside0.mk (Kd.R_below (by (with_reducible repeat (first | apply Kd.R_alloc | apply Kd.R_drewN | apply Kd.R_drew)); exact HO340.out) hb); have n2_ := Aside0.mk (Kd.R_lower (Kd.R_new' ho0 (Kd.R_lt (by (with_reducible repeat (first | apply Kd.R_alloc | apply Kd.R_drewN | apply Kd.R_drew)); exact HO_7.out))) (below_size (by repeat (first | (with_reducible first | exact HB.out | apply below_alloc | apply pw_below_drewN | apply below_drew1) | exact HB.out)))); have n3_ := Aside0.mk (below_step (by repeat (first | (with_reducible first | exact HB.out | apply below_alloc | apply pw_below_drewN | apply below_drew1) | exact HB.out)) hb); clear HO_7; clear HO340; clear HB; have HO_7 := n0_; have HO340 := n1_; have HO347 := n2_; have HB := n3_; clear n0_ n1_ n2_ n3_; (try clear hb); (try clear hb2); (try clear hk); (try clear hi); (try clear ho0); obtain ⟨Ao80, co80, eo80⟩ := Kd.R_slice HO_7.out; subst eo80) | (go_at_call 10; (with_reducible refine (camshaftlaw14_known.calls k2  t349 _ A72.out).mono ?_); rintro e w81 ⟨rfl, hb⟩; have n0_ := Aside0.mk (Kd.R_below (by (with_reducible repeat (first | apply Kd.R_alloc | apply Kd.R_drewN | apply Kd.R_drew)); exact HO_7.out) hb); have n1_ := Aside0.mk (Kd.R_below (by (with_reducible repeat (first | apply Kd.R_alloc | apply Kd.R_drewN | apply Kd.R_drew)); exact HO340.out) hb); have n2_ := Aside0.mk (Kd.R_below (by (with_reducible repeat (first | apply Kd.R_alloc | apply Kd.R_drewN | apply Kd.R_drew)); exact HO347.out) hb); have n3_ := Aside0.mk (below_step (by repeat (first | (with_reducible first | exact HB.out | apply below_alloc | apply pw_below_drewN | apply below_drew1) | exact HB.out)) hb); clear HO_7; clear HO340; clear HO347; clear HB; have HO_7 := n0_; have HO340 := n1_; have HO347 := n2_; have HB := n3_; clear n0_ n1_ n2_ n3_; (try clear hb); (try clear hb2); (try clear hk); (try clear hi)))
                            go_ret
                            exact ⟨by first | rfl | (simp [errW_none, errW_some] <;> rfl) | (simp only [← hji48]; first | rfl | (simp [errW_none, errW_some] <;> rfl)) | (simp [*, errW_none, errW_some] <;> rfl), by repeat (first | (with_reducible first | exact HB.out | apply below_alloc | apply pw_below_drewN | apply below_drew1) | exact HB.out)⟩
                          · rw [if_neg c71] at H
                            have c71b0 : ((t330.length : Int) == 0) = false := beq_eq_false_iff_ne.mpr c71
                            have c71b1 : ((t330.length : Int) != 0) = true := bne_iff_ne.mpr c71
                            have c71b2 : ¬ (t330 = []) := fun h_ => c71 (by rw [h_]; rfl)
                            obtain rfl := Option.some.inj H
                            cases hr
                      · rw [if_neg c52] at H
                        have c52b0 : ((t332 == 0) == (decide (x10_2 < 0))) = false := by simpa using c52
                        (try (have c52b1 : decide ((t332 == 0) = (decide (x10_2 < 0))) = false := by simpa using c52))
                        (try (have c52b2 : ((t332 == 0) == (decide (x10_2 < 0))) = false := by simpa using c52))
                        (try (have c52b3 : ¬ ((t332 == 0) = (decide (x10_2 < 0))) := by simpa using c52))
                        clear c52
                        obtain rfl := Option.some.inj H
                        cases hr
                    · rw [if_neg c51] at H
                      have c51b0 : (t331 == x10_2) = false := beq_eq_false_iff_ne.mpr c51
                      have c51b1 : (t331 != x10_2) = true := bne_iff_ne.mpr c51
                      obtain rfl := Option.some.inj H
                      cases hr
                  · rw [if_neg c47] at H
                    exact absurd H (by simp)
                · rw [if_neg c46] at H
                  exact absurd H (by simp)
              · rw [if_neg c45] at H
                exact absurd H (by simp)

end Go.Proofs.Ytpjobjgfigplhaa.Print
