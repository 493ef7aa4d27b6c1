/- WRITTEN BY A PROGRAM OF THE SESSION out of the translation: functions in plain Lean, and that the calls come to just these answers; Lean checks every line. -/
import Derived.Test.YtpjobjgfigplhaaPrint0
import Derived.Test.YtpjobjgfigplhaaPrint1
import Derived.Test.YtpjobjgfigplhaaPrint3
import Derived.Test.YtpjobjgfigplhaaPrint10
import Derived.Test.YtpjobjgfigplhaaPrint11
import Derived.Test.YtpjobjgfigplhaaPrint14
namespace Go.Proofs.Ytpjobjgfigplhaa.Print
open Go.RowKit Go.Proofs.YtpjobjgfigplhaaW.PrintWords Go.Proofs.YtpjobjgfigplhaaW.PrintLast Go.Proofs.YtpjobjgfigplhaaW.PrintMore
attribute [local go_sem] max2_int min2_int max_two min_two max_three min_three max_four min_four   -- for this text's walks alone
set_option linter.unusedVariables false
set_option linter.unusedSimpArgs false

/-! ### camshaftlaw14_RtaLeast: function 4 -/
mutual
def camshaftlaw14_RtaLeast.j0 : Nat → List (S41) → Int → Bool → Option (Bool)
  | 0, _, _, _ => none
  | k + 1, x0, x1, x30 => if x30 = true then ((camshaftlaw14_known.f k).bind fun t287 => (some t287)) else ((rta_Response.f k x0 x1).bind fun bt288 => (if 0 ≤ x1 then (if x1 < (x0.length : Int) then (if bt288.2 = 0 then ((rta_Next.f k x0 x1 (wrap64 (bt288.1 - ((rd_T41 x0 x1).f4)))).bind fun bt293 => (if bt288.1 > ((rd_T41 x0 x1).f3) then (some false) else (if bt288.1 ≤ ((rd_T41 x0 x1).f4) then (some false) else (if bt293.2 = 0 then (if bt293.1 = (wrap64 (bt288.1 - ((rd_T41 x0 x1).f4))) then (camshaftlaw14_RtaLeast.j1 k x0 x1 (mn (wrap64 (bt288.1 - ((rd_T41 x0 x1).f4))) 3000)) else (some false)) else (some false))))) else (camshaftlaw14_RtaLeast.j1 k x0 x1 (mn (mn ((rd_T41 x0 x1).f3) 3000) (wrap64 ((wrap64 (((rd_T41 x0 x1).f3) - (mn ((rd_T41 x0 x1).f4) ((rd_T41 x0 x1).f3)))) + 1))))) else (none)) else (none)))
def camshaftlaw14_RtaLeast.j1 : Nat → List (S41) → Int → Int → Option (Bool)
  | 0, _, _, _ => none
  | k + 1, x0, x1, x7 => camshaftlaw14_RtaLeast.l0 k x0 x1 x7 0
def camshaftlaw14_RtaLeast.l0 : Nat → List (S41) → Int → Int → Int → Option (Bool)
  | 0, _, _, _, _ => none
  | k + 1, x0, x1, x7, x10 => if x10 < x7 then ((rta_Next.f k x0 x1 x10).bind fun bt301 => (if bt301.2 = 0 then (if bt301.1 = x10 then (some false) else (camshaftlaw14_RtaLeast.l0 k x0 x1 x7 (wrap64 (x10 + 1)))) else (camshaftlaw14_RtaLeast.l0 k x0 x1 x7 (wrap64 (x10 + 1))))) else ((camshaftlaw14_known.f k).bind fun t303 => (some t303))
end
def camshaftlaw14_RtaLeast.f (k : Nat) (l0 : List (S41)) (a1 : Int) : Option (Bool) := (camshaftlaw14_light.f k l0).bind fun t285 => (if t285 = true then ((rta_Right.f k l0).bind fun t286 => (if t286 = true then (if a1 < 0 then (camshaftlaw14_RtaLeast.j0 k l0 a1 true) else (camshaftlaw14_RtaLeast.j0 k l0 a1 (decide (a1 ≥ (l0.length : Int))))) else (camshaftlaw14_RtaLeast.j0 k l0 a1 true))) else (camshaftlaw14_RtaLeast.j0 k l0 a1 true))
theorem camshaftlaw14_RtaLeast.mono_l : ∀ k, (∀ y0 y1 y2, LeO (camshaftlaw14_RtaLeast.j0 k y0 y1 y2) (camshaftlaw14_RtaLeast.j0 (k + 1) y0 y1 y2)) ∧ (∀ y0 y1 y2, LeO (camshaftlaw14_RtaLeast.j1 k y0 y1 y2) (camshaftlaw14_RtaLeast.j1 (k + 1) y0 y1 y2)) ∧ (∀ y0 y1 y2 y3, LeO (camshaftlaw14_RtaLeast.l0 k y0 y1 y2 y3) (camshaftlaw14_RtaLeast.l0 (k + 1) y0 y1 y2 y3))
  | 0 => ⟨fun _ _ _ r h => by simp [camshaftlaw14_RtaLeast.j0] at h, fun _ _ _ r h => by simp [camshaftlaw14_RtaLeast.j1] at h, fun _ _ _ _ r h => by simp [camshaftlaw14_RtaLeast.l0] at h⟩
  | k + 1 => by
    obtain ⟨ih0, ih1, ih2⟩ := camshaftlaw14_RtaLeast.mono_l k
    refine ⟨?_, ?_, ?_⟩
    · intro y0 y1 y2
      unfold camshaftlaw14_RtaLeast.j0
      repeat' first
      | (with_reducible exact ih0 _ _ _)
      | (with_reducible exact ih1 _ _ _)
      | (with_reducible exact ih2 _ _ _ _)
      | (with_reducible exact camshaftlaw14_known.mono _)
      | (with_reducible exact camshaftlaw14_light.mono _ _)
      | (with_reducible exact rta_Next.mono _ _ _ _)
      | (with_reducible exact rta_Response.mono _ _ _)
      | (with_reducible exact rta_Right.mono _ _)
      | (with_reducible exact LeO.refl _)
      | (with_reducible exact LeO.none _)
      | (with_reducible refine LeO.ite ?_ ?_)
      | (with_reducible refine LeO.bind ?_ (fun _ => ?_))
      | exact ih0 _ _ _
      | exact ih1 _ _ _
      | exact ih2 _ _ _ _
      | exact camshaftlaw14_known.mono _
      | exact camshaftlaw14_light.mono _ _
      | exact rta_Next.mono _ _ _ _
      | exact rta_Response.mono _ _ _
      | exact rta_Right.mono _ _
      | exact LeO.none _
      | refine LeO.ite ?_ ?_
      | refine LeO.bind ?_ (fun _ => ?_)
    · intro y0 y1 y2
      unfold camshaftlaw14_RtaLeast.j1
      repeat' first
      | (with_reducible exact ih0 _ _ _)
      | (with_reducible exact ih1 _ _ _)
      | (with_reducible exact ih2 _ _ _ _)
      | (with_reducible exact camshaftlaw14_known.mono _)
      | (with_reducible exact camshaftlaw14_light.mono _ _)
      | (with_reducible exact rta_Next.mono _ _ _ _)
      | (with_reducible exact rta_Response.mono _ _ _)
      | (with_reducible exact rta_Right.mono _ _)
      | (with_reducible exact LeO.refl _)
      | (with_reducible exact LeO.none _)
      | (with_reducible refine LeO.ite ?_ ?_)
      | (with_reducible refine LeO.bind ?_ (fun _ => ?_))
      | exact ih0 _ _ _
      | exact ih1 _ _ _
      | exact ih2 _ _ _ _
      | exact camshaftlaw14_known.mono _
      | exact camshaftlaw14_light.mono _ _
      | exact rta_Next.mono _ _ _ _
      | exact rta_Response.mono _ _ _
      | exact rta_Right.mono _ _
      | exact LeO.none _
      | refine LeO.ite ?_ ?_
      | refine LeO.bind ?_ (fun _ => ?_)
    · intro y0 y1 y2 y3
      unfold camshaftlaw14_RtaLeast.l0
      repeat' first
      | (with_reducible exact ih0 _ _ _)
      | (with_reducible exact ih1 _ _ _)
      | (with_reducible exact ih2 _ _ _ _)
      | (with_reducible exact camshaftlaw14_known.mono _)
      | (with_reducible exact camshaftlaw14_light.mono _ _)
      | (with_reducible exact rta_Next.mono _ _ _ _)
      | (with_reducible exact rta_Response.mono _ _ _)
      | (with_reducible exact rta_Right.mono _ _)
      | (with_reducible exact LeO.refl _)
      | (with_reducible exact LeO.none _)
      | (with_reducible refine LeO.ite ?_ ?_)
      | (with_reducible refine LeO.bind ?_ (fun _ => ?_))
      | exact ih0 _ _ _
      | exact ih1 _ _ _
      | exact ih2 _ _ _ _
      | exact camshaftlaw14_known.mono _
      | exact camshaftlaw14_light.mono _ _
      | exact rta_Next.mono _ _ _ _
      | exact rta_Response.mono _ _ _
      | exact rta_Right.mono _ _
      | exact LeO.none _
      | refine LeO.ite ?_ ?_
      | refine LeO.bind ?_ (fun _ => ?_)
theorem camshaftlaw14_RtaLeast.mono : ∀ a0 a1 k, LeO (camshaftlaw14_RtaLeast.f k a0 a1) (camshaftlaw14_RtaLeast.f (k + 1) a0 a1) := by
  intro a0 a1 k
  obtain ⟨ih0, ih1, ih2⟩ := camshaftlaw14_RtaLeast.mono_l k
  unfold camshaftlaw14_RtaLeast.f
  repeat' first
      | (with_reducible exact ih0 _ _ _)
      | (with_reducible exact ih1 _ _ _)
      | (with_reducible exact ih2 _ _ _ _)
      | (with_reducible exact camshaftlaw14_known.mono _)
      | (with_reducible exact camshaftlaw14_light.mono _ _)
      | (with_reducible exact rta_Next.mono _ _ _ _)
      | (with_reducible exact rta_Response.mono _ _ _)
      | (with_reducible exact rta_Right.mono _ _)
      | (with_reducible exact LeO.refl _)
      | (with_reducible exact LeO.none _)
      | (with_reducible refine LeO.ite ?_ ?_)
      | (with_reducible refine LeO.bind ?_ (fun _ => ?_))
      | exact ih0 _ _ _
      | exact ih1 _ _ _
      | exact ih2 _ _ _ _
      | exact camshaftlaw14_known.mono _
      | exact camshaftlaw14_light.mono _ _
      | exact rta_Next.mono _ _ _ _
      | exact rta_Response.mono _ _ _
      | exact rta_Right.mono _ _
      | exact LeO.none _
      | refine LeO.ite ?_ ?_
      | refine LeO.bind ?_ (fun _ => ?_)
set_option maxHeartbeats 8000000 in
set_option maxRecDepth 100000 in
theorem camshaftlaw14_RtaLeast.calls (k : Nat) (A0 : Option Addr) (c0 : Nat) (l0 : List (S41)) (a1 : Int) (r : Bool) (w : World) (hr0 : Kd.C k41 w A0 l0.length l0) (hc0 : l0.length ≤ c0) (hr : r = true) (h : camshaftlaw14_RtaLeast.f k l0 a1 = some r) :
    Calls Try.prog 4 #[.slice A0 l0.length c0, .int .i64 a1] w fun e w' => e = .returned (.bool r) ∧ Below w.heap.size w w' := by
  have HR0 := Aside0.mk hr0
  have HC0 := Aside0.mk hc0
  clear hr0 hc0
  have HB := Aside0.mk (Below.refl w.heap.size w)
  have H : ((camshaftlaw14_light.f k l0).bind fun t285 => (if t285 = true then ((rta_Right.f k l0).bind fun t286 => (if t286 = true then (if a1 < 0 then (camshaftlaw14_RtaLeast.j0 k l0 a1 true) else (camshaftlaw14_RtaLeast.j0 k l0 a1 (decide (a1 ≥ (l0.length : Int))))) else (camshaftlaw14_RtaLeast.j0 k l0 a1 true))) else (camshaftlaw14_RtaLeast.j0 k l0 a1 true))) = some r := h
  clear h
  have HC3 := Aside0.mk H
  clear H
  go_enter Try.func4, Try.ntmps4
  go_upto_region 1 with (fail)
  repeat (go_quiet (fail); go_upto_region 1 with (fail))
  go_cut [30] (fun v30 wc => ∃ (kq : Nat) (x30_2 : Bool), v30 = .bool x30_2 ∧ Aside0 (camshaftlaw14_RtaLeast.j0 kq l0 a1 x30_2 = some r) ∧ Aside0 (kq ≤ k) ∧ Aside0 (Below w.heap.size w wc))
  case first =>
    have H := HC3.out
    clear HC3
    replace H := Option.bind_eq_some_iff.mp H
    obtain ⟨t285, A40, H⟩ := H
    replace H : (if t285 = true then ((rta_Right.f k l0).bind fun t286 => (if t286 = true then (if a1 < 0 then (camshaftlaw14_RtaLeast.j0 k l0 a1 true) else (camshaftlaw14_RtaLeast.j0 k l0 a1 (decide (a1 ≥ (l0.length : Int))))) else (camshaftlaw14_RtaLeast.j0 k l0 a1 true))) else (camshaftlaw14_RtaLeast.j0 k l0 a1 true)) = some r := H
    have A4 := Aside0.mk A40
    clear A40
    by_cases c5 : t285 = true
    · subst c5
      have H1 : ((rta_Right.f k l0).bind fun t286 => (if t286 = true then (if a1 < 0 then (camshaftlaw14_RtaLeast.j0 k l0 a1 true) else (camshaftlaw14_RtaLeast.j0 k l0 a1 (decide (a1 ≥ (l0.length : Int))))) else (camshaftlaw14_RtaLeast.j0 k l0 a1 true))) = some r := by rw [if_pos rfl] at H; exact H
      clear H
      have H := H1
      clear H1
      replace H := Option.bind_eq_some_iff.mp H
      obtain ⟨t286, A60, H⟩ := H
      replace H : (if t286 = true then (if a1 < 0 then (camshaftlaw14_RtaLeast.j0 k l0 a1 true) else (camshaftlaw14_RtaLeast.j0 k l0 a1 (decide (a1 ≥ (l0.length : Int))))) else (camshaftlaw14_RtaLeast.j0 k l0 a1 true)) = some r := H
      have A6 := Aside0.mk A60
      clear A60
      by_cases c7 : t286 = true
      · subst c7
        have H1 : (if a1 < 0 then (camshaftlaw14_RtaLeast.j0 k l0 a1 true) else (camshaftlaw14_RtaLeast.j0 k l0 a1 (decide (a1 ≥ (l0.length : Int))))) = some r := by rw [if_pos rfl] at H; exact H
        clear H
        have H := H1
        clear H1
        by_cases c8 : a1 < 0
        · rw [if_pos c8] at H
          have c8b0 : decide (a1 < 0) = true := decide_eq_true c8
          clear c8
          (first | rw [c8b0] | (simp only [i64_w, i32_w]; rw [c8b0]) | skip)
          have H' := Aside0.mk H
          clear H
          go_wp2_with (first | (go_at_call 9; (with_reducible refine (camshaftlaw14_light.calls k _ _ l0 true _ ?side1 ?side2 A4.out).mono ?_); (case side1 => repeat (first | exact (Kd.C_below HR0.out HB.out) | (with_reducible refine Kd.C_alloc ?_ _) | (with_reducible refine Kd.C_drewN ?_ _) | (with_reducible refine Kd.C_drew ?_))); (case side2 => exact HC0.out); rintro e w' ⟨rfl, ⟨nd, rfl⟩⟩; (try first | exact ⟨rfl, _, World.drewN_drewN _ _ _⟩ | exact ⟨rfl, _, Eq.trans (World.drewN_drewN _ _ _) (congrArg (World.drewN _) (Nat.add_assoc _ _ _))⟩)) | (go_at_call 18; (with_reducible refine (rta_Right.calls k _ _ l0 true _ ?side1 ?side2 A6.out).mono ?_); (case side1 => repeat (first | exact (Kd.C_below HR0.out (by repeat (first | (with_reducible first | exact HB.out | apply below_alloc | apply pw_below_drewN | apply below_drew1) | exact HB.out))) | (with_reducible refine Kd.C_alloc ?_ _) | (with_reducible refine Kd.C_drewN ?_ _) | (with_reducible refine Kd.C_drew ?_))); (case side2 => exact HC0.out); rintro e w9 ⟨rfl, hb⟩; have n0_ := Aside0.mk (below_step (by repeat (first | (with_reducible first | exact HB.out | apply below_alloc | apply pw_below_drewN | apply below_drew1) | exact HB.out)) hb); clear HB; have HB := n0_; clear n0_ hb))
          repeat (go_quiet (first | (go_at_call 9; (with_reducible refine (camshaftlaw14_light.calls k _ _ l0 true _ ?side1 ?side2 A4.out).mono ?_); (case side1 => repeat (first | exact (Kd.C_below HR0.out HB.out) | (with_reducible refine Kd.C_alloc ?_ _) | (with_reducible refine Kd.C_drewN ?_ _) | (with_reducible refine Kd.C_drew ?_))); (case side2 => exact HC0.out); rintro e w' ⟨rfl, ⟨nd, rfl⟩⟩; (try first | exact ⟨rfl, _, World.drewN_drewN _ _ _⟩ | exact ⟨rfl, _, Eq.trans (World.drewN_drewN _ _ _) (congrArg (World.drewN _) (Nat.add_assoc _ _ _))⟩)) | (go_at_call 18; (with_reducible refine (rta_Right.calls k _ _ l0 true _ ?side1 ?side2 A6.out).mono ?_); (case side1 => repeat (first | exact (Kd.C_below HR0.out (by repeat (first | (with_reducible first | exact HB.out | apply below_alloc | apply pw_below_drewN | apply below_drew1) | exact HB.out))) | (with_reducible refine Kd.C_alloc ?_ _) | (with_reducible refine Kd.C_drewN ?_ _) | (with_reducible refine Kd.C_drew ?_))); (case side2 => exact HC0.out); rintro e w9 ⟨rfl, hb⟩; have n0_ := Aside0.mk (below_step (by repeat (first | (with_reducible first | exact HB.out | apply below_alloc | apply pw_below_drewN | apply below_drew1) | exact HB.out)) hb); clear HB; have HB := n0_; clear n0_ hb)); try go_wp2_with (first | (go_at_call 9; (with_reducible refine (camshaftlaw14_light.calls k _ _ l0 true _ ?side1 ?side2 A4.out).mono ?_); (case side1 => repeat (first | exact (Kd.C_below HR0.out HB.out) | (with_reducible refine Kd.C_alloc ?_ _) | (with_reducible refine Kd.C_drewN ?_ _) | (with_reducible refine Kd.C_drew ?_))); (case side2 => exact HC0.out); rintro e w' ⟨rfl, ⟨nd, rfl⟩⟩; (try first | exact ⟨rfl, _, World.drewN_drewN _ _ _⟩ | exact ⟨rfl, _, Eq.trans (World.drewN_drewN _ _ _) (congrArg (World.drewN _) (Nat.add_assoc _ _ _))⟩)) | (go_at_call 18; (with_reducible refine (rta_Right.calls k _ _ l0 true _ ?side1 ?side2 A6.out).mono ?_); (case side1 => repeat (first | exact (Kd.C_below HR0.out (by repeat (first | (with_reducible first | exact HB.out | apply below_alloc | apply pw_below_drewN | apply below_drew1) | exact HB.out))) | (with_reducible refine Kd.C_alloc ?_ _) | (with_reducible refine Kd.C_drewN ?_ _) | (with_reducible refine Kd.C_drew ?_))); (case side2 => exact HC0.out); rintro e w9 ⟨rfl, hb⟩; have n0_ := Aside0.mk (below_step (by repeat (first | (with_reducible first | exact HB.out | apply below_alloc | apply pw_below_drewN | apply below_drew1) | exact HB.out)) hb); clear HB; have HB := n0_; clear n0_ hb)))
          go_meet
          case rel => exact ⟨_, (true), (by first | rfl | (simp; done) | (simp [*]; done)), H', ⟨by first | omega | exact Nat.le_refl _⟩, ⟨by repeat (first | (with_reducible first | exact HB.out | apply below_alloc | apply pw_below_drewN | apply below_drew1) | exact HB.out)⟩⟩
        · rw [if_neg c8] at H
          have c8b0 : decide (a1 < 0) = false := decide_eq_false c8
          clear c8
          (first | rw [c8b0] | (simp only [i64_w, i32_w]; rw [c8b0]) | skip)
          have H' := Aside0.mk H
          clear H
          go_wp2_with (first | (go_at_call 9; (with_reducible refine (camshaftlaw14_light.calls k _ _ l0 true _ ?side1 ?side2 A4.out).mono ?_); (case side1 => repeat (first | exact (Kd.C_below HR0.out HB.out) | (with_reducible refine Kd.C_alloc ?_ _) | (with_reducible refine Kd.C_drewN ?_ _) | (with_reducible refine Kd.C_drew ?_))); (case side2 => exact HC0.out); rintro e w' ⟨rfl, ⟨nd, rfl⟩⟩; (try first | exact ⟨rfl, _, World.drewN_drewN _ _ _⟩ | exact ⟨rfl, _, Eq.trans (World.drewN_drewN _ _ _) (congrArg (World.drewN _) (Nat.add_assoc _ _ _))⟩)) | (go_at_call 18; (with_reducible refine (rta_Right.calls k _ _ l0 true _ ?side1 ?side2 A6.out).mono ?_); (case side1 => repeat (first | exact (Kd.C_below HR0.out (by repeat (first | (with_reducible first | exact HB.out | apply below_alloc | apply pw_below_drewN | apply below_drew1) | exact HB.out))) | (with_reducible refine Kd.C_alloc ?_ _) | (with_reducible refine Kd.C_drewN ?_ _) | (with_reducible refine Kd.C_drew ?_))); (case side2 => exact HC0.out); rintro e w10 ⟨rfl, hb⟩; have n0_ := Aside0.mk (below_step (by repeat (first | (with_reducible first | exact HB.out | apply below_alloc | apply pw_below_drewN | apply below_drew1) | exact HB.out)) hb); clear HB; have HB := n0_; clear n0_ hb))
          repeat (go_quiet (first | (go_at_call 9; (with_reducible refine (camshaftlaw14_light.calls k _ _ l0 true _ ?side1 ?side2 A4.out).mono ?_); (case side1 => repeat (first | exact (Kd.C_below HR0.out HB.out) | (with_reducible refine Kd.C_alloc ?_ _) | (with_reducible refine Kd.C_drewN ?_ _) | (with_reducible refine Kd.C_drew ?_))); (case side2 => exact HC0.out); rintro e w' ⟨rfl, ⟨nd, rfl⟩⟩; (try first | exact ⟨rfl, _, World.drewN_drewN _ _ _⟩ | exact ⟨rfl, _, Eq.trans (World.drewN_drewN _ _ _) (congrArg (World.drewN _) (Nat.add_assoc _ _ _))⟩)) | (go_at_call 18; (with_reducible refine (rta_Right.calls k _ _ l0 true _ ?side1 ?side2 A6.out).mono ?_); (case side1 => repeat (first | exact (Kd.C_below HR0.out (by repeat (first | (with_reducible first | exact HB.out | apply below_alloc | apply pw_below_drewN | apply below_drew1) | exact HB.out))) | (with_reducible refine Kd.C_alloc ?_ _) | (with_reducible refine Kd.C_drewN ?_ _) | (with_reducible refine Kd.C_drew ?_))); (case side2 => exact HC0.out); rintro e w10 ⟨rfl, hb⟩; have n0_ := Aside0.mk (below_step (by repeat (first | (with_reducible first | exact HB.out | apply below_alloc | apply pw_below_drewN | apply below_drew1) | exact HB.out)) hb); clear HB; have HB := n0_; clear n0_ hb)); try go_wp2_with (first | (go_at_call 9; (with_reducible refine (camshaftlaw14_light.calls k _ _ l0 true _ ?side1 ?side2 A4.out).mono ?_); (case side1 => repeat (first | exact (Kd.C_below HR0.out HB.out) | (with_reducible refine Kd.C_alloc ?_ _) | (with_reducible refine Kd.C_drewN ?_ _) | (with_reducible refine Kd.C_drew ?_))); (case side2 => exact HC0.out); rintro e w' ⟨rfl, ⟨nd, rfl⟩⟩; (try first | exact ⟨rfl, _, World.drewN_drewN _ _ _⟩ | exact ⟨rfl, _, Eq.trans (World.drewN_drewN _ _ _) (congrArg (World.drewN _) (Nat.add_assoc _ _ _))⟩)) | (go_at_call 18; (with_reducible refine (rta_Right.calls k _ _ l0 true _ ?side1 ?side2 A6.out).mono ?_); (case side1 => repeat (first | exact (Kd.C_below HR0.out (by repeat (first | (with_reducible first | exact HB.out | apply below_alloc | apply pw_below_drewN | apply below_drew1) | exact HB.out))) | (with_reducible refine Kd.C_alloc ?_ _) | (with_reducible refine Kd.C_drewN ?_ _) | (with_reducible refine Kd.C_drew ?_))); (case side2 => exact HC0.out); rintro e w10 ⟨rfl, hb⟩; have n0_ := Aside0.mk (below_step (by repeat (first | (with_reducible first | exact HB.out | apply below_alloc | apply pw_below_drewN | apply below_drew1) | exact HB.out)) hb); clear HB; have HB := n0_; clear n0_ hb)))
          go_meet
          case rel => exact ⟨_, (decide (a1 ≥ (l0.length : Int))), (by first | rfl | (simp; done) | (simp [*]; done)), H', ⟨by first | omega | exact Nat.le_refl _⟩, ⟨by repeat (first | (with_reducible first | exact HB.out | apply below_alloc | apply pw_below_drewN | apply below_drew1) | exact HB.out)⟩⟩
      · replace c7 := Bool.eq_false_iff.mpr c7
        subst c7
        have H1 : (camshaftlaw14_RtaLeast.j0 k l0 a1 true) = some r := by rw [if_neg (show ¬ (false = true) by decide)] at H; exact H
        clear H
        have H := H1
        clear H1
        have H' := Aside0.mk H
        clear H
        go_wp2_with (first | (go_at_call 9; (with_reducible refine (camshaftlaw14_light.calls k _ _ l0 true _ ?side1 ?side2 A4.out).mono ?_); (case side1 => repeat (first | exact (Kd.C_below HR0.out HB.out) | (with_reducible refine Kd.C_alloc ?_ _) | (with_reducible refine Kd.C_drewN ?_ _) | (with_reducible refine Kd.C_drew ?_))); (case side2 => exact HC0.out); rintro e w' ⟨rfl, ⟨nd, rfl⟩⟩; (try first | exact ⟨rfl, _, World.drewN_drewN _ _ _⟩ | exact ⟨rfl, _, Eq.trans (World.drewN_drewN _ _ _) (congrArg (World.drewN _) (Nat.add_assoc _ _ _))⟩)) | (go_at_call 18; (with_reducible refine (rta_Right.calls k _ _ l0 false _ ?side1 ?side2 A6.out).mono ?_); (case side1 => repeat (first | exact (Kd.C_below HR0.out (by repeat (first | (with_reducible first | exact HB.out | apply below_alloc | apply pw_below_drewN | apply below_drew1) | exact HB.out))) | (with_reducible refine Kd.C_alloc ?_ _) | (with_reducible refine Kd.C_drewN ?_ _) | (with_reducible refine Kd.C_drew ?_))); (case side2 => exact HC0.out); rintro e w11 ⟨rfl, hb⟩; have n0_ := Aside0.mk (below_step (by repeat (first | (with_reducible first | exact HB.out | apply below_alloc | apply pw_below_drewN | apply below_drew1) | exact HB.out)) hb); clear HB; have HB := n0_; clear n0_ hb))
        repeat (go_quiet (first | (go_at_call 9; (with_reducible refine (camshaftlaw14_light.calls k _ _ l0 true _ ?side1 ?side2 A4.out).mono ?_); (case side1 => repeat (first | exact (Kd.C_below HR0.out HB.out) | (with_reducible refine Kd.C_alloc ?_ _) | (with_reducible refine Kd.C_drewN ?_ _) | (with_reducible refine Kd.C_drew ?_))); (case side2 => exact HC0.out); rintro e w' ⟨rfl, ⟨nd, rfl⟩⟩; (try first | exact ⟨rfl, _, World.drewN_drewN _ _ _⟩ | exact ⟨rfl, _, Eq.trans (World.drewN_drewN _ _ _) (congrArg (World.drewN _) (Nat.add_assoc _ _ _))⟩)) | (go_at_call 18; (with_reducible refine (rta_Right.calls k _ _ l0 false _ ?side1 ?side2 A6.out).mono ?_); (case side1 => repeat (first | exact (Kd.C_below HR0.out (by repeat (first | (with_reducible first | exact HB.out | apply below_alloc | apply pw_below_drewN | apply below_drew1) | exact HB.out))) | (with_reducible refine Kd.C_alloc ?_ _) | (with_reducible refine Kd.C_drewN ?_ _) | (with_reducible refine Kd.C_drew ?_))); (case side2 => exact HC0.out); rintro e w11 ⟨rfl, hb⟩; have n0_ := Aside0.mk (below_step (by repeat (first | (with_reducible first | exact HB.out | apply below_alloc | apply pw_below_drewN | apply below_drew1) | exact HB.out)) hb); clear HB; have HB := n0_; clear n0_ hb)); try go_wp2_with (first | (go_at_call 9; (with_reducible refine (camshaftlaw14_light.calls k _ _ l0 true _ ?side1 ?side2 A4.out).mono ?_); (case side1 => repeat (first | exact (Kd.C_below HR0.out HB.out) | (with_reducible refine Kd.C_alloc ?_ _) | (with_reducible refine Kd.C_drewN ?_ _) | (with_reducible refine Kd.C_drew ?_))); (case side2 => exact HC0.out); rintro e w' ⟨rfl, ⟨nd, rfl⟩⟩; (try first | exact ⟨rfl, _, World.drewN_drewN _ _ _⟩ | exact ⟨rfl, _, Eq.trans (World.drewN_drewN _ _ _) (congrArg (World.drewN _) (Nat.add_assoc _ _ _))⟩)) | (go_at_call 18; (with_reducible refine (rta_Right.calls k _ _ l0 false _ ?side1 ?side2 A6.out).mono ?_); (case side1 => repeat (first | exact (Kd.C_below HR0.out (by repeat (first | (with_reducible first | exact HB.out | apply below_alloc | apply pw_below_drewN | apply below_drew1) | exact HB.out))) | (with_reducible refine Kd.C_alloc ?_ _) | (with_reducible refine Kd.C_drewN ?_ _) | (with_reducible refine Kd.C_drew ?_))); (case side2 => exact HC0.out); rintro e w11 ⟨rfl, hb⟩; have n0_ := Aside0.mk (below_step (by repeat (first | (with_reducible first | exact HB.out | apply below_alloc | apply pw_below_drewN | apply below_drew1) | exact HB.out)) hb); clear HB; have HB := n0_; clear n0_ hb)))
        go_meet
        case rel => exact ⟨_, (true), (by first | rfl | (simp; done) | (simp [*]; done)), H', ⟨by first | omega | exact Nat.le_refl _⟩, ⟨by repeat (first | (with_reducible first | exact HB.out | apply below_alloc | apply pw_below_drewN | apply below_drew1) | exact HB.out)⟩⟩
    · replace c5 := Bool.eq_false_iff.mpr c5
      subst c5
      have H1 : (camshaftlaw14_RtaLeast.j0 k l0 a1 true) = some r := by rw [if_neg (show ¬ (false = true) by decide)] at H; exact H
      clear H
      have H := H1
      clear H1
      have H' := Aside0.mk H
      clear H
      go_wp2_with (first | (go_at_call 9; (with_reducible refine (camshaftlaw14_light.calls k _ _ l0 false _ ?side1 ?side2 A4.out).mono ?_); (case side1 => repeat (first | exact (Kd.C_below HR0.out HB.out) | (with_reducible refine Kd.C_alloc ?_ _) | (with_reducible refine Kd.C_drewN ?_ _) | (with_reducible refine Kd.C_drew ?_))); (case side2 => exact HC0.out); rintro e w' ⟨rfl, ⟨nd, rfl⟩⟩; (try first | exact ⟨rfl, _, World.drewN_drewN _ _ _⟩ | exact ⟨rfl, _, Eq.trans (World.drewN_drewN _ _ _) (congrArg (World.drewN _) (Nat.add_assoc _ _ _))⟩)))
      repeat (go_quiet (first | (go_at_call 9; (with_reducible refine (camshaftlaw14_light.calls k _ _ l0 false _ ?side1 ?side2 A4.out).mono ?_); (case side1 => repeat (first | exact (Kd.C_below HR0.out HB.out) | (with_reducible refine Kd.C_alloc ?_ _) | (with_reducible refine Kd.C_drewN ?_ _) | (with_reducible refine Kd.C_drew ?_))); (case side2 => exact HC0.out); rintro e w' ⟨rfl, ⟨nd, rfl⟩⟩; (try first | exact ⟨rfl, _, World.drewN_drewN _ _ _⟩ | exact ⟨rfl, _, Eq.trans (World.drewN_drewN _ _ _) (congrArg (World.drewN _) (Nat.add_assoc _ _ _))⟩))); try go_wp2_with (first | (go_at_call 9; (with_reducible refine (camshaftlaw14_light.calls k _ _ l0 false _ ?side1 ?side2 A4.out).mono ?_); (case side1 => repeat (first | exact (Kd.C_below HR0.out HB.out) | (with_reducible refine Kd.C_alloc ?_ _) | (with_reducible refine Kd.C_drewN ?_ _) | (with_reducible refine Kd.C_drew ?_))); (case side2 => exact HC0.out); rintro e w' ⟨rfl, ⟨nd, rfl⟩⟩; (try first | exact ⟨rfl, _, World.drewN_drewN _ _ _⟩ | exact ⟨rfl, _, Eq.trans (World.drewN_drewN _ _ _) (congrArg (World.drewN _) (Nat.add_assoc _ _ _))⟩))))
      go_meet
      case rel => exact ⟨_, (true), (by first | rfl | (simp; done) | (simp [*]; done)), H', ⟨by first | omega | exact Nat.le_refl _⟩, ⟨by repeat (first | (with_reducible first | exact HB.out | apply below_alloc | apply pw_below_drewN | apply below_drew1) | exact HB.out)⟩⟩
  case rest =>
    clear HC3
    try clear p2
    try clear c4
    try clear c5
    try clear c7
    try clear c8
    try clear c8b0
    obtain ⟨kq, x30_2, rfl, HA, HJ2, HB⟩ := hcut
    cases kq with
    | zero => exact absurd HA.out (by simp [camshaftlaw14_RtaLeast.j0])
    | succ kj2 =>
      have H := HA.out
      clear HA
      simp only [camshaftlaw14_RtaLeast.j0] at H
      by_cases c12 : x30_2 = true
      · subst c12
        have H1 : ((camshaftlaw14_known.f kj2).bind fun t287 => (some t287)) = some r := by rw [if_pos rfl] at H; exact H
        clear H
        have H := H1
        clear H1
        replace H := Option.bind_eq_some_iff.mp H
        obtain ⟨t287, A130, H⟩ := H
        replace H : (some t287) = some r := H
        have A13 := Aside0.mk A130
        clear A130
        obtain rfl := Option.some.inj H
        go_wp2_with (first | (go_at_call 10; (with_reducible refine (camshaftlaw14_known.calls kj2  t287 _ A13.out).mono ?_); rintro e w14 ⟨rfl, hb⟩; have n0_ := Aside0.mk (below_step (by repeat (first | (with_reducible first | exact HB.out | apply below_alloc | apply pw_below_drewN | apply below_drew1) | exact HB.out)) hb); clear HB; have HB := n0_; clear n0_ hb))
        repeat (go_quiet (first | (go_at_call 10; (with_reducible refine (camshaftlaw14_known.calls kj2  t287 _ A13.out).mono ?_); rintro e w14 ⟨rfl, hb⟩; have n0_ := Aside0.mk (below_step (by repeat (first | (with_reducible first | exact HB.out | apply below_alloc | apply pw_below_drewN | apply below_drew1) | exact HB.out)) hb); clear HB; have HB := n0_; clear n0_ hb)); try go_wp2_with (first | (go_at_call 10; (with_reducible refine (camshaftlaw14_known.calls kj2  t287 _ A13.out).mono ?_); rintro e w14 ⟨rfl, hb⟩; have n0_ := Aside0.mk (below_step (by repeat (first | (with_reducible first | exact HB.out | apply below_alloc | apply pw_below_drewN | apply below_drew1) | exact HB.out)) hb); clear HB; have HB := n0_; clear n0_ hb)))
        go_ret
        exact ⟨by first | rfl | (simp [errW_none, errW_some] <;> rfl) | (simp [*, errW_none, errW_some] <;> rfl), by repeat (first | (with_reducible first | exact HB.out | apply below_alloc | apply pw_below_drewN | apply below_drew1) | exact HB.out)⟩
      · replace c12 := Bool.eq_false_iff.mpr c12
        subst c12
        have H1 : ((rta_Response.f kj2 l0 a1).bind fun bt288 => (if 0 ≤ a1 then (if a1 < (l0.length : Int) then (if bt288.2 = 0 then ((rta_Next.f kj2 l0 a1 (wrap64 (bt288.1 - ((rd_T41 l0 a1).f4)))).bind fun bt293 => (if bt288.1 > ((rd_T41 l0 a1).f3) then (some false) else (if bt288.1 ≤ ((rd_T41 l0 a1).f4) then (some false) else (if bt293.2 = 0 then (if bt293.1 = (wrap64 (bt288.1 - ((rd_T41 l0 a1).f4))) then (camshaftlaw14_RtaLeast.j1 kj2 l0 a1 (mn (wrap64 (bt288.1 - ((rd_T41 l0 a1).f4))) 3000)) else (some false)) else (some false))))) else (camshaftlaw14_RtaLeast.j1 kj2 l0 a1 (mn (mn ((rd_T41 l0 a1).f3) 3000) (wrap64 ((wrap64 (((rd_T41 l0 a1).f3) - (mn ((rd_T41 l0 a1).f4) ((rd_T41 l0 a1).f3)))) + 1))))) else (none)) else (none))) = some r := by rw [if_neg (show ¬ (false = true) by decide)] at H; exact H
        clear H
        have H := H1
        clear H1
        replace H := Option.bind_eq_some_iff.mp H
        obtain ⟨⟨t288, t289⟩, A150, H⟩ := H
        replace H : (if 0 ≤ a1 then (if a1 < (l0.length : Int) then (if t289 = 0 then ((rta_Next.f kj2 l0 a1 (wrap64 (t288 - ((rd_T41 l0 a1).f4)))).bind fun bt293 => (if t288 > ((rd_T41 l0 a1).f3) then (some false) else (if t288 ≤ ((rd_T41 l0 a1).f4) then (some false) else (if bt293.2 = 0 then (if bt293.1 = (wrap64 (t288 - ((rd_T41 l0 a1).f4))) then (camshaftlaw14_RtaLeast.j1 kj2 l0 a1 (mn (wrap64 (t288 - ((rd_T41 l0 a1).f4))) 3000)) else (some false)) else (some false))))) else (camshaftlaw14_RtaLeast.j1 kj2 l0 a1 (mn (mn ((rd_T41 l0 a1).f3) 3000) (wrap64 ((wrap64 (((rd_T41 l0 a1).f3) - (mn ((rd_T41 l0 a1).f4) ((rd_T41 l0 a1).f3)))) + 1))))) else (none)) else (none)) = some r := H
        have A15 := Aside0.mk A150
        clear A150
        by_cases c16 : 0 ≤ a1
        · rw [if_pos c16] at H
          have c16b0 : decide (0 ≤ a1) = true := decide_eq_true c16
          clear c16
          by_cases c17 : a1 < (l0.length : Int)
          · rw [if_pos c17] at H
            have c17b0 : decide (a1 < (l0.length : Int)) = true := decide_eq_true c17
            clear c17
            obtain ⟨ji18, hji18⟩ : ∃ j_ : Int, (mn ((rd_T41 l0 a1).f3) 3000) = j_ := ⟨_, rfl⟩
            replace H : (if t289 = 0 then ((rta_Next.f kj2 l0 a1 (wrap64 (t288 - ((rd_T41 l0 a1).f4)))).bind fun bt293 => (if t288 > ((rd_T41 l0 a1).f3) then (some false) else (if t288 ≤ ((rd_T41 l0 a1).f4) then (some false) else (if bt293.2 = 0 then (if bt293.1 = (wrap64 (t288 - ((rd_T41 l0 a1).f4))) then (camshaftlaw14_RtaLeast.j1 kj2 l0 a1 (mn (wrap64 (t288 - ((rd_T41 l0 a1).f4))) 3000)) else (some false)) else (some false))))) else (camshaftlaw14_RtaLeast.j1 kj2 l0 a1 (mn (ji18) (wrap64 ((wrap64 (((rd_T41 l0 a1).f3) - (mn ((rd_T41 l0 a1).f4) ((rd_T41 l0 a1).f3)))) + 1))))) = some r := by first | (rw [hji18] at H; exact H) | (simp only [hji18] at H ⊢; exact H)
            (try rw [hji18] at A15)
            have hji18_ : (if 3000 < ((rd_T41 l0 a1).f3) then 3000 else ((rd_T41 l0 a1).f3)) = ji18 := hji18
            have HC19 := Aside0.mk H
            clear H
            go_upto_if 45 with (first | (go_at_call 14; (with_reducible refine (rta_Response.calls kj2 _ _ l0 a1 t288 t289 _ ?side1 ?side2 A15.out).mono ?_); (case side1 => repeat (first | exact (Kd.C_below HR0.out HB.out) | (with_reducible refine Kd.C_alloc ?_ _) | (with_reducible refine Kd.C_drewN ?_ _) | (with_reducible refine Kd.C_drew ?_))); (case side2 => exact HC0.out); rintro e w20 ⟨rfl, hb⟩; have n0_ := Aside0.mk (below_step (by repeat (first | (with_reducible first | exact HB.out | apply below_alloc | apply pw_below_drewN | apply below_drew1) | exact HB.out)) hb); clear HB; have HB := n0_; clear n0_ hb; have p290 : 0 ≤ (a1 : Int) := of_decide_eq_true (by first | (with_reducible assumption) | assumption); have q290 : a1 < (l0.length : Int) := of_decide_eq_true (by first | (with_reducible assumption) | assumption); obtain ⟨ad290, e290, hx290_0, hx290_1, hx290_2, hx290_3, hx290_4, hx290_5⟩ := at_T41 HR0.out a1 p290 q290; cases e290; replace hx290_0 := (HB.out.cell (World.block_lt_of_cell? w _ hx290_0)).trans hx290_0; replace hx290_1 := (HB.out.cell (World.block_lt_of_cell? w _ hx290_1)).trans hx290_1; replace hx290_2 := (HB.out.cell (World.block_lt_of_cell? w _ hx290_2)).trans hx290_2; replace hx290_3 := (HB.out.cell (World.block_lt_of_cell? w _ hx290_3)).trans hx290_3; replace hx290_4 := (HB.out.cell (World.block_lt_of_cell? w _ hx290_4)).trans hx290_4; replace hx290_5 := (HB.out.cell (World.block_lt_of_cell? w _ hx290_5)).trans hx290_5; replace p290 := eq_true p290; replace q290 := eq_true q290))
            repeat (go_quiet (first | (go_at_call 14; (with_reducible refine (rta_Response.calls kj2 _ _ l0 a1 t288 t289 _ ?side1 ?side2 A15.out).mono ?_); (case side1 => repeat (first | exact (Kd.C_below HR0.out HB.out) | (with_reducible refine Kd.C_alloc ?_ _) | (with_reducible refine Kd.C_drewN ?_ _) | (with_reducible refine Kd.C_drew ?_))); (case side2 => exact HC0.out); rintro e w20 ⟨rfl, hb⟩; have n0_ := Aside0.mk (below_step (by repeat (first | (with_reducible first | exact HB.out | apply below_alloc | apply pw_below_drewN | apply below_drew1) | exact HB.out)) hb); clear HB; have HB := n0_; clear n0_ hb; have p290 : 0 ≤ (a1 : Int) := of_decide_eq_true (by first | (with_reducible assumption) | assumption); have q290 : a1 < (l0.length : Int) := of_decide_eq_true (by first | (with_reducible assumption) | assumption); obtain ⟨ad290, e290, hx290_0, hx290_1, hx290_2, hx290_3, hx290_4, hx290_5⟩ := at_T41 HR0.out a1 p290 q290; cases e290; replace hx290_0 := (HB.out.cell (World.block_lt_of_cell? w _ hx290_0)).trans hx290_0; replace hx290_1 := (HB.out.cell (World.block_lt_of_cell? w _ hx290_1)).trans hx290_1; replace hx290_2 := (HB.out.cell (World.block_lt_of_cell? w _ hx290_2)).trans hx290_2; replace hx290_3 := (HB.out.cell (World.block_lt_of_cell? w _ hx290_3)).trans hx290_3; replace hx290_4 := (HB.out.cell (World.block_lt_of_cell? w _ hx290_4)).trans hx290_4; replace hx290_5 := (HB.out.cell (World.block_lt_of_cell? w _ hx290_5)).trans hx290_5; replace p290 := eq_true p290; replace q290 := eq_true q290)); go_upto_if 45 with (first | (go_at_call 14; (with_reducible refine (rta_Response.calls kj2 _ _ l0 a1 t288 t289 _ ?side1 ?side2 A15.out).mono ?_); (case side1 => repeat (first | exact (Kd.C_below HR0.out HB.out) | (with_reducible refine Kd.C_alloc ?_ _) | (with_reducible refine Kd.C_drewN ?_ _) | (with_reducible refine Kd.C_drew ?_))); (case side2 => exact HC0.out); rintro e w20 ⟨rfl, hb⟩; have n0_ := Aside0.mk (below_step (by repeat (first | (with_reducible first | exact HB.out | apply below_alloc | apply pw_below_drewN | apply below_drew1) | exact HB.out)) hb); clear HB; have HB := n0_; clear n0_ hb; have p290 : 0 ≤ (a1 : Int) := of_decide_eq_true (by first | (with_reducible assumption) | assumption); have q290 : a1 < (l0.length : Int) := of_decide_eq_true (by first | (with_reducible assumption) | assumption); obtain ⟨ad290, e290, hx290_0, hx290_1, hx290_2, hx290_3, hx290_4, hx290_5⟩ := at_T41 HR0.out a1 p290 q290; cases e290; replace hx290_0 := (HB.out.cell (World.block_lt_of_cell? w _ hx290_0)).trans hx290_0; replace hx290_1 := (HB.out.cell (World.block_lt_of_cell? w _ hx290_1)).trans hx290_1; replace hx290_2 := (HB.out.cell (World.block_lt_of_cell? w _ hx290_2)).trans hx290_2; replace hx290_3 := (HB.out.cell (World.block_lt_of_cell? w _ hx290_3)).trans hx290_3; replace hx290_4 := (HB.out.cell (World.block_lt_of_cell? w _ hx290_4)).trans hx290_4; replace hx290_5 := (HB.out.cell (World.block_lt_of_cell? w _ hx290_5)).trans hx290_5; replace p290 := eq_true p290; replace q290 := eq_true q290)))
            (try simp only [Act.put, List.setIfInBounds_toArray, List.set_cons_zero, List.set_cons_succ])
            go_cut [7] (fun v7 wc => ∃ (kq : Nat) (x7_18 : Int), v7 = .int .i64 x7_18 ∧ Aside0 (camshaftlaw14_RtaLeast.j1 kq l0 a1 x7_18 = some r) ∧ Aside0 (kq ≤ kj2) ∧ Aside0 (Below w.heap.size w wc))
            case first =>
              have H := HC19.out
              clear HC19
              by_cases c21 : t289 = 0
              · rw [if_pos c21] at H
                have c21b0 : (t289 == 0) = true := beq_iff_eq.mpr c21
                have c21b1 : (t289 != 0) = false := bne_eq_false_iff_eq.mpr c21
                clear c21
                (first | rw [c21b0] | (simp only [i64_w, i32_w]; rw [c21b0]) | skip)
                obtain ⟨ji22, hji22⟩ : ∃ j_ : Int, (mn (wrap64 (t288 - ((rd_T41 l0 a1).f4))) 3000) = j_ := ⟨_, rfl⟩
                replace H : ((rta_Next.f kj2 l0 a1 (wrap64 (t288 - ((rd_T41 l0 a1).f4)))).bind fun bt293 => (if t288 > ((rd_T41 l0 a1).f3) then (some false) else (if t288 ≤ ((rd_T41 l0 a1).f4) then (some false) else (if bt293.2 = 0 then (if bt293.1 = (wrap64 (t288 - ((rd_T41 l0 a1).f4))) then (camshaftlaw14_RtaLeast.j1 kj2 l0 a1 ji22) else (some false)) else (some false))))) = some r := by first | (rw [hji22] at H; exact H) | (simp only [hji22] at H ⊢; exact H)
                have hji22_ : (if 3000 < (wrap64 (t288 - ((rd_T41 l0 a1).f4))) then 3000 else (wrap64 (t288 - ((rd_T41 l0 a1).f4)))) = ji22 := hji22
                replace H := Option.bind_eq_some_iff.mp H
                obtain ⟨⟨t293, t294⟩, A230, H⟩ := H
                replace H : (if t288 > ((rd_T41 l0 a1).f3) then (some false) else (if t288 ≤ ((rd_T41 l0 a1).f4) then (some false) else (if t294 = 0 then (if t293 = (wrap64 (t288 - ((rd_T41 l0 a1).f4))) then (camshaftlaw14_RtaLeast.j1 kj2 l0 a1 ji22) else (some false)) else (some false)))) = some r := H
                have A23 := Aside0.mk A230
                clear A230
                by_cases c24 : t288 > ((rd_T41 l0 a1).f3)
                · rw [if_pos c24] at H
                  have c24b0 : decide (((rd_T41 l0 a1).f3) < t288) = true := decide_eq_true c24
                  clear c24
                  obtain rfl := Option.some.inj H
                  cases hr
                · rw [if_neg c24] at H
                  have c24b0 : decide (((rd_T41 l0 a1).f3) < t288) = false := decide_eq_false c24
                  clear c24
                  by_cases c26 : t288 ≤ ((rd_T41 l0 a1).f4)
                  · rw [if_pos c26] at H
                    have c26b0 : decide (t288 ≤ ((rd_T41 l0 a1).f4)) = true := decide_eq_true c26
                    clear c26
                    obtain rfl := Option.some.inj H
                    cases hr
                  · rw [if_neg c26] at H
                    have c26b0 : decide (t288 ≤ ((rd_T41 l0 a1).f4)) = false := decide_eq_false c26
                    clear c26
                    by_cases c28 : t294 = 0
                    · rw [if_pos c28] at H
                      have c28b0 : (t294 == 0) = true := beq_iff_eq.mpr c28
                      have c28b1 : (t294 != 0) = false := bne_eq_false_iff_eq.mpr c28
                      clear c28
                      by_cases c29 : t293 = (wrap64 (t288 - ((rd_T41 l0 a1).f4)))
                      · rw [if_pos c29] at H
                        have c29b0 : (t293 == (wrap64 (t288 - ((rd_T41 l0 a1).f4)))) = true := beq_iff_eq.mpr c29
                        have c29b1 : (t293 != (wrap64 (t288 - ((rd_T41 l0 a1).f4)))) = false := bne_eq_false_iff_eq.mpr c29
                        clear c29
                        have H' := Aside0.mk H
                        clear H
                        have p291 : 0 ≤ (a1 : Int) := of_decide_eq_true (by first | (with_reducible assumption) | assumption)
                        have q291 : a1 < (l0.length : Int) := of_decide_eq_true (by first | (with_reducible assumption) | assumption)
                        obtain ⟨ad291, e291, hx291_0, hx291_1, hx291_2, hx291_3, hx291_4, hx291_5⟩ := at_T41 HR0.out a1 p291 q291
                        obtain rfl : ad290 = ad291 := (by injection e291)
                        replace hx291_0 := (HB.out.cell (World.block_lt_of_cell? w _ hx291_0)).trans hx291_0
                        replace hx291_1 := (HB.out.cell (World.block_lt_of_cell? w _ hx291_1)).trans hx291_1
                        replace hx291_2 := (HB.out.cell (World.block_lt_of_cell? w _ hx291_2)).trans hx291_2
                        replace hx291_3 := (HB.out.cell (World.block_lt_of_cell? w _ hx291_3)).trans hx291_3
                        replace hx291_4 := (HB.out.cell (World.block_lt_of_cell? w _ hx291_4)).trans hx291_4
                        replace hx291_5 := (HB.out.cell (World.block_lt_of_cell? w _ hx291_5)).trans hx291_5
                        replace p291 := eq_true p291
                        replace q291 := eq_true q291
                        have p292 : 0 ≤ (a1 : Int) := of_decide_eq_true (by first | (with_reducible assumption) | assumption)
                        have q292 : a1 < (l0.length : Int) := of_decide_eq_true (by first | (with_reducible assumption) | assumption)
                        obtain ⟨ad292, e292, hx292_0, hx292_1, hx292_2, hx292_3, hx292_4, hx292_5⟩ := at_T41 HR0.out a1 p292 q292
                        obtain rfl : ad290 = ad292 := (by injection e292)
                        replace hx292_0 := (HB.out.cell (World.block_lt_of_cell? w _ hx292_0)).trans hx292_0
                        replace hx292_1 := (HB.out.cell (World.block_lt_of_cell? w _ hx292_1)).trans hx292_1
                        replace hx292_2 := (HB.out.cell (World.block_lt_of_cell? w _ hx292_2)).trans hx292_2
                        replace hx292_3 := (HB.out.cell (World.block_lt_of_cell? w _ hx292_3)).trans hx292_3
                        replace hx292_4 := (HB.out.cell (World.block_lt_of_cell? w _ hx292_4)).trans hx292_4
                        replace hx292_5 := (HB.out.cell (World.block_lt_of_cell? w _ hx292_5)).trans hx292_5
                        replace p292 := eq_true p292
                        replace q292 := eq_true q292
                        go_wp2_with (first | (go_at_call 12; (with_reducible refine (rta_Next.calls kj2 _ _ l0 a1 (wrap64 (t288 - ((rd_T41 l0 a1).f4))) t293 t294 _ ?side1 ?side2 A23.out).mono ?_); (case side1 => repeat (first | exact (Kd.C_below HR0.out HB.out) | (with_reducible refine Kd.C_alloc ?_ _) | (with_reducible refine Kd.C_drewN ?_ _) | (with_reducible refine Kd.C_drew ?_))); (case side2 => exact HC0.out); rintro e w30 ⟨rfl, hb⟩; have n0_ := Aside0.mk (below_step (by repeat (first | (with_reducible first | exact HB.out | apply below_alloc | apply pw_below_drewN | apply below_drew1) | exact HB.out)) hb); clear HB; have HB := n0_; clear n0_ hb; have p295 : 0 ≤ (a1 : Int) := of_decide_eq_true (by first | (with_reducible assumption) | assumption); have q295 : a1 < (l0.length : Int) := of_decide_eq_true (by first | (with_reducible assumption) | assumption); obtain ⟨ad295, e295, hx295_0, hx295_1, hx295_2, hx295_3, hx295_4, hx295_5⟩ := at_T41 HR0.out a1 p295 q295; obtain rfl : ad290 = ad295 := (by injection e295); replace hx295_0 := (HB.out.cell (World.block_lt_of_cell? w _ hx295_0)).trans hx295_0; replace hx295_1 := (HB.out.cell (World.block_lt_of_cell? w _ hx295_1)).trans hx295_1; replace hx295_2 := (HB.out.cell (World.block_lt_of_cell? w _ hx295_2)).trans hx295_2; replace hx295_3 := (HB.out.cell (World.block_lt_of_cell? w _ hx295_3)).trans hx295_3; replace hx295_4 := (HB.out.cell (World.block_lt_of_cell? w _ hx295_4)).trans hx295_4; replace hx295_5 := (HB.out.cell (World.block_lt_of_cell? w _ hx295_5)).trans hx295_5; replace p295 := eq_true p295; replace q295 := eq_true q295; have p296 : 0 ≤ (a1 : Int) := of_decide_eq_true (by first | (with_reducible assumption) | assumption); have q296 : a1 < (l0.length : Int) := of_decide_eq_true (by first | (with_reducible assumption) | assumption); obtain ⟨ad296, e296, hx296_0, hx296_1, hx296_2, hx296_3, hx296_4, hx296_5⟩ := at_T41 HR0.out a1 p296 q296; obtain rfl : ad290 = ad296 := (by injection e296); replace hx296_0 := (HB.out.cell (World.block_lt_of_cell? w _ hx296_0)).trans hx296_0; replace hx296_1 := (HB.out.cell (World.block_lt_of_cell? w _ hx296_1)).trans hx296_1; replace hx296_2 := (HB.out.cell (World.block_lt_of_cell? w _ hx296_2)).trans hx296_2; replace hx296_3 := (HB.out.cell (World.block_lt_of_cell? w _ hx296_3)).trans hx296_3; replace hx296_4 := (HB.out.cell (World.block_lt_of_cell? w _ hx296_4)).trans hx296_4; replace hx296_5 := (HB.out.cell (World.block_lt_of_cell? w _ hx296_5)).trans hx296_5; replace p296 := eq_true p296; replace q296 := eq_true q296; have p297 : 0 ≤ (a1 : Int) := of_decide_eq_true (by first | (with_reducible assumption) | assumption); have q297 : a1 < (l0.length : Int) := of_decide_eq_true (by first | (with_reducible assumption) | assumption); obtain ⟨ad297, e297, hx297_0, hx297_1, hx297_2, hx297_3, hx297_4, hx297_5⟩ := at_T41 HR0.out a1 p297 q297; obtain rfl : ad290 = ad297 := (by injection e297); replace hx297_0 := (HB.out.cell (World.block_lt_of_cell? w _ hx297_0)).trans hx297_0; replace hx297_1 := (HB.out.cell (World.block_lt_of_cell? w _ hx297_1)).trans hx297_1; replace hx297_2 := (HB.out.cell (World.block_lt_of_cell? w _ hx297_2)).trans hx297_2; replace hx297_3 := (HB.out.cell (World.block_lt_of_cell? w _ hx297_3)).trans hx297_3; replace hx297_4 := (HB.out.cell (World.block_lt_of_cell? w _ hx297_4)).trans hx297_4; replace hx297_5 := (HB.out.cell (World.block_lt_of_cell? w _ hx297_5)).trans hx297_5; replace p297 := eq_true p297; replace q297 := eq_true q297))
                        repeat (go_quiet (first | (go_at_call 12; (with_reducible refine (rta_Next.calls kj2 _ _ l0 a1 (wrap64 (t288 - ((rd_T41 l0 a1).f4))) t293 t294 _ ?side1 ?side2 A23.out).mono ?_); (case side1 => repeat (first | exact (Kd.C_below HR0.out HB.out) | (with_reducible refine Kd.C_alloc ?_ _) | (with_reducible refine Kd.C_drewN ?_ _) | (with_reducible refine Kd.C_drew ?_))); (case side2 => exact HC0.out); rintro e w30 ⟨rfl, hb⟩; have n0_ := Aside0.mk (below_step (by repeat (first | (with_reducible first | exact HB.out | apply below_alloc | apply pw_below_drewN | apply below_drew1) | exact HB.out)) hb); clear HB; have HB := n0_; clear n0_ hb; have p295 : 0 ≤ (a1 : Int) := of_decide_eq_true (by first | (with_reducible assumption) | assumption); have q295 : a1 < (l0.length : Int) := of_decide_eq_true (by first | (with_reducible assumption) | assumption); obtain ⟨ad295, e295, hx295_0, hx295_1, hx295_2, hx295_3, hx295_4, hx295_5⟩ := at_T41 HR0.out a1 p295 q295; obtain rfl : ad290 = ad295 := (by injection e295); replace hx295_0 := (HB.out.cell (World.block_lt_of_cell? w _ hx295_0)).trans hx295_0; replace hx295_1 := (HB.out.cell (World.block_lt_of_cell? w _ hx295_1)).trans hx295_1; replace hx295_2 := (HB.out.cell (World.block_lt_of_cell? w _ hx295_2)).trans hx295_2; replace hx295_3 := (HB.out.cell (World.block_lt_of_cell? w _ hx295_3)).trans hx295_3; replace hx295_4 := (HB.out.cell (World.block_lt_of_cell? w _ hx295_4)).trans hx295_4; replace hx295_5 := (HB.out.cell (World.block_lt_of_cell? w _ hx295_5)).trans hx295_5; replace p295 := eq_true p295; replace q295 := eq_true q295; have p296 : 0 ≤ (a1 : Int) := of_decide_eq_true (by first | (with_reducible assumption) | assumption); have q296 : a1 < (l0.length : Int) := of_decide_eq_true (by first | (with_reducible assumption) | assumption); obtain ⟨ad296, e296, hx296_0, hx296_1, hx296_2, hx296_3, hx296_4, hx296_5⟩ := at_T41 HR0.out a1 p296 q296; obtain rfl : ad290 = ad296 := (by injection e296); replace hx296_0 := (HB.out.cell (World.block_lt_of_cell? w _ hx296_0)).trans hx296_0; replace hx296_1 := (HB.out.cell (World.block_lt_of_cell? w _ hx296_1)).trans hx296_1; replace hx296_2 := (HB.out.cell (World.block_lt_of_cell? w _ hx296_2)).trans hx296_2; replace hx296_3 := (HB.out.cell (World.block_lt_of_cell? w _ hx296_3)).trans hx296_3; replace hx296_4 := (HB.out.cell (World.block_lt_of_cell? w _ hx296_4)).trans hx296_4; replace hx296_5 := (HB.out.cell (World.block_lt_of_cell? w _ hx296_5)).trans hx296_5; replace p296 := eq_true p296; replace q296 := eq_true q296; have p297 : 0 ≤ (a1 : Int) := of_decide_eq_true (by first | (with_reducible assumption) | assumption); have q297 : a1 < (l0.length : Int) := of_decide_eq_true (by first | (with_reducible assumption) | assumption); obtain ⟨ad297, e297, hx297_0, hx297_1, hx297_2, hx297_3, hx297_4, hx297_5⟩ := at_T41 HR0.out a1 p297 q297; obtain rfl : ad290 = ad297 := (by injection e297); replace hx297_0 := (HB.out.cell (World.block_lt_of_cell? w _ hx297_0)).trans hx297_0; replace hx297_1 := (HB.out.cell (World.block_lt_of_cell? w _ hx297_1)).trans hx297_1; replace hx297_2 := (HB.out.cell (World.block_lt_of_cell? w _ hx297_2)).trans hx297_2; replace hx297_3 := (HB.out.cell (World.block_lt_of_cell? w _ hx297_3)).trans hx297_3; replace hx297_4 := (HB.out.cell (World.block_lt_of_cell? w _ hx297_4)).trans hx297_4; replace hx297_5 := (HB.out.cell (World.block_lt_of_cell? w _ hx297_5)).trans hx297_5; replace p297 := eq_true p297; replace q297 := eq_true q297)); try go_wp2_with (first | (go_at_call 12; (with_reducible refine (rta_Next.calls kj2 _ _ l0 a1 (wrap64 (t288 - ((rd_T41 l0 a1).f4))) t293 t294 _ ?side1 ?side2 A23.out).mono ?_); (case side1 => repeat (first | exact (Kd.C_below HR0.out HB.out) | (with_reducible refine Kd.C_alloc ?_ _) | (with_reducible refine Kd.C_drewN ?_ _) | (with_reducible refine Kd.C_drew ?_))); (case side2 => exact HC0.out); rintro e w30 ⟨rfl, hb⟩; have n0_ := Aside0.mk (below_step (by repeat (first | (with_reducible first | exact HB.out | apply below_alloc | apply pw_below_drewN | apply below_drew1) | exact HB.out)) hb); clear HB; have HB := n0_; clear n0_ hb; have p295 : 0 ≤ (a1 : Int) := of_decide_eq_true (by first | (with_reducible assumption) | assumption); have q295 : a1 < (l0.length : Int) := of_decide_eq_true (by first | (with_reducible assumption) | assumption); obtain ⟨ad295, e295, hx295_0, hx295_1, hx295_2, hx295_3, hx295_4, hx295_5⟩ := at_T41 HR0.out a1 p295 q295; obtain rfl : ad290 = ad295 := (by injection e295); replace hx295_0 := (HB.out.cell (World.block_lt_of_cell? w _ hx295_0)).trans hx295_0; replace hx295_1 := (HB.out.cell (World.block_lt_of_cell? w _ hx295_1)).trans hx295_1; replace hx295_2 := (HB.out.cell (World.block_lt_of_cell? w _ hx295_2)).trans hx295_2; replace hx295_3 := (HB.out.cell (World.block_lt_of_cell? w _ hx295_3)).trans hx295_3; replace hx295_4 := (HB.out.cell (World.block_lt_of_cell? w _ hx295_4)).trans hx295_4; replace hx295_5 := (HB.out.cell (World.block_lt_of_cell? w _ hx295_5)).trans hx295_5; replace p295 := eq_true p295; replace q295 := eq_true q295; have p296 : 0 ≤ (a1 : Int) := of_decide_eq_true (by first | (with_reducible assumption) | assumption); have q296 : a1 < (l0.length : Int) := of_decide_eq_true (by first | (with_reducible assumption) | assumption); obtain ⟨ad296, e296, hx296_0, hx296_1, hx296_2, hx296_3, hx296_4, hx296_5⟩ := at_T41 HR0.out a1 p296 q296; obtain rfl : ad290 = ad296 := (by injection e296); replace hx296_0 := (HB.out.cell (World.block_lt_of_cell? w _ hx296_0)).trans hx296_0; replace hx296_1 := (HB.out.cell (World.block_lt_of_cell? w _ hx296_1)).trans hx296_1; replace hx296_2 := (HB.out.cell (World.block_lt_of_cell? w _ hx296_2)).trans hx296_2; replace hx296_3 := (HB.out.cell (World.block_lt_of_cell? w _ hx296_3)).trans hx296_3; replace hx296_4 := (HB.out.cell (World.block_lt_of_cell? w _ hx296_4)).trans hx296_4; replace hx296_5 := (HB.out.cell (World.block_lt_of_cell? w _ hx296_5)).trans hx296_5; replace p296 := eq_true p296; replace q296 := eq_true q296; have p297 : 0 ≤ (a1 : Int) := of_decide_eq_true (by first | (with_reducible assumption) | assumption); have q297 : a1 < (l0.length : Int) := of_decide_eq_true (by first | (with_reducible assumption) | assumption); obtain ⟨ad297, e297, hx297_0, hx297_1, hx297_2, hx297_3, hx297_4, hx297_5⟩ := at_T41 HR0.out a1 p297 q297; obtain rfl : ad290 = ad297 := (by injection e297); replace hx297_0 := (HB.out.cell (World.block_lt_of_cell? w _ hx297_0)).trans hx297_0; replace hx297_1 := (HB.out.cell (World.block_lt_of_cell? w _ hx297_1)).trans hx297_1; replace hx297_2 := (HB.out.cell (World.block_lt_of_cell? w _ hx297_2)).trans hx297_2; replace hx297_3 := (HB.out.cell (World.block_lt_of_cell? w _ hx297_3)).trans hx297_3; replace hx297_4 := (HB.out.cell (World.block_lt_of_cell? w _ hx297_4)).trans hx297_4; replace hx297_5 := (HB.out.cell (World.block_lt_of_cell? w _ hx297_5)).trans hx297_5; replace p297 := eq_true p297; replace q297 := eq_true q297)))
                        go_meet
                        case rel => exact ⟨_, (ji22), (by first | rfl | (simp; done) | (simp only [← hji22] <;> (first | rfl | simp)) | (simp [*]; done)), H', ⟨by have := HJ2.out; first | omega | exact Nat.le_refl _⟩, ⟨by repeat (first | (with_reducible first | exact HB.out | apply below_alloc | apply pw_below_drewN | apply below_drew1) | exact HB.out)⟩⟩
                      · rw [if_neg c29] at H
                        have c29b0 : (t293 == (wrap64 (t288 - ((rd_T41 l0 a1).f4)))) = false := beq_eq_false_iff_ne.mpr c29
                        have c29b1 : (t293 != (wrap64 (t288 - ((rd_T41 l0 a1).f4)))) = true := bne_iff_ne.mpr c29
                        obtain rfl := Option.some.inj H
                        cases hr
                    · rw [if_neg c28] at H
                      have c28b0 : (t294 == 0) = false := beq_eq_false_iff_ne.mpr c28
                      have c28b1 : (t294 != 0) = true := bne_iff_ne.mpr c28
                      obtain rfl := Option.some.inj H
                      cases hr
              · rw [if_neg c21] at H
                have c21b0 : (t289 == 0) = false := beq_eq_false_iff_ne.mpr c21
                have c21b1 : (t289 != 0) = true := bne_iff_ne.mpr c21
                (first | rw [c21b0] | (simp only [i64_w, i32_w]; rw [c21b0]) | skip)
                obtain ⟨ji33, hji33⟩ : ∃ j_ : Int, (mn ((rd_T41 l0 a1).f4) ((rd_T41 l0 a1).f3)) = j_ := ⟨_, rfl⟩
                replace H : (camshaftlaw14_RtaLeast.j1 kj2 l0 a1 (mn (ji18) (wrap64 ((wrap64 (((rd_T41 l0 a1).f3) - (ji33))) + 1)))) = some r := by first | (rw [hji33] at H; exact H) | (simp only [hji33] at H ⊢; exact H)
                have hji33_ : (if ((rd_T41 l0 a1).f3) < ((rd_T41 l0 a1).f4) then ((rd_T41 l0 a1).f3) else ((rd_T41 l0 a1).f4)) = ji33 := hji33
                obtain ⟨ji34, hji34⟩ : ∃ j_ : Int, (mn (ji18) (wrap64 ((wrap64 (((rd_T41 l0 a1).f3) - (ji33))) + 1))) = j_ := ⟨_, rfl⟩
                replace H : (camshaftlaw14_RtaLeast.j1 kj2 l0 a1 ji34) = some r := by first | (rw [hji34] at H; exact H) | (simp only [hji34] at H ⊢; exact H)
                have hji34_ : (if (wrap64 ((wrap64 (((rd_T41 l0 a1).f3) - (ji33))) + 1)) < (ji18) then (wrap64 ((wrap64 (((rd_T41 l0 a1).f3) - (ji33))) + 1)) else (ji18)) = ji34 := hji34
                have H' := Aside0.mk H
                clear H
                have p298 : 0 ≤ (a1 : Int) := of_decide_eq_true (by first | (with_reducible assumption) | assumption)
                have q298 : a1 < (l0.length : Int) := of_decide_eq_true (by first | (with_reducible assumption) | assumption)
                obtain ⟨ad298, e298, hx298_0, hx298_1, hx298_2, hx298_3, hx298_4, hx298_5⟩ := at_T41 HR0.out a1 p298 q298
                obtain rfl : ad290 = ad298 := (by injection e298)
                replace hx298_0 := (HB.out.cell (World.block_lt_of_cell? w _ hx298_0)).trans hx298_0
                replace hx298_1 := (HB.out.cell (World.block_lt_of_cell? w _ hx298_1)).trans hx298_1
                replace hx298_2 := (HB.out.cell (World.block_lt_of_cell? w _ hx298_2)).trans hx298_2
                replace hx298_3 := (HB.out.cell (World.block_lt_of_cell? w _ hx298_3)).trans hx298_3
                replace hx298_4 := (HB.out.cell (World.block_lt_of_cell? w _ hx298_4)).trans hx298_4
                replace hx298_5 := (HB.out.cell (World.block_lt_of_cell? w _ hx298_5)).trans hx298_5
                replace p298 := eq_true p298
                replace q298 := eq_true q298
                have p299 : 0 ≤ (a1 : Int) := of_decide_eq_true (by first | (with_reducible assumption) | assumption)
                have q299 : a1 < (l0.length : Int) := of_decide_eq_true (by first | (with_reducible assumption) | assumption)
                obtain ⟨ad299, e299, hx299_0, hx299_1, hx299_2, hx299_3, hx299_4, hx299_5⟩ := at_T41 HR0.out a1 p299 q299
                obtain rfl : ad290 = ad299 := (by injection e299)
                replace hx299_0 := (HB.out.cell (World.block_lt_of_cell? w _ hx299_0)).trans hx299_0
                replace hx299_1 := (HB.out.cell (World.block_lt_of_cell? w _ hx299_1)).trans hx299_1
                replace hx299_2 := (HB.out.cell (World.block_lt_of_cell? w _ hx299_2)).trans hx299_2
                replace hx299_3 := (HB.out.cell (World.block_lt_of_cell? w _ hx299_3)).trans hx299_3
                replace hx299_4 := (HB.out.cell (World.block_lt_of_cell? w _ hx299_4)).trans hx299_4
                replace hx299_5 := (HB.out.cell (World.block_lt_of_cell? w _ hx299_5)).trans hx299_5
                replace p299 := eq_true p299
                replace q299 := eq_true q299
                have p300 : 0 ≤ (a1 : Int) := of_decide_eq_true (by first | (with_reducible assumption) | assumption)
                have q300 : a1 < (l0.length : Int) := of_decide_eq_true (by first | (with_reducible assumption) | assumption)
                obtain ⟨ad300, e300, hx300_0, hx300_1, hx300_2, hx300_3, hx300_4, hx300_5⟩ := at_T41 HR0.out a1 p300 q300
                obtain rfl : ad290 = ad300 := (by injection e300)
                replace hx300_0 := (HB.out.cell (World.block_lt_of_cell? w _ hx300_0)).trans hx300_0
                replace hx300_1 := (HB.out.cell (World.block_lt_of_cell? w _ hx300_1)).trans hx300_1
                replace hx300_2 := (HB.out.cell (World.block_lt_of_cell? w _ hx300_2)).trans hx300_2
                replace hx300_3 := (HB.out.cell (World.block_lt_of_cell? w _ hx300_3)).trans hx300_3
                replace hx300_4 := (HB.out.cell (World.block_lt_of_cell? w _ hx300_4)).trans hx300_4
                replace hx300_5 := (HB.out.cell (World.block_lt_of_cell? w _ hx300_5)).trans hx300_5
                replace p300 := eq_true p300
                replace q300 := eq_true q300
                go_wp2
                repeat (go_quiet (fail); try go_wp2)
                go_meet
                case rel => exact ⟨_, (ji34), (by first | rfl | (simp; done) | (simp only [← hji34] <;> (first | rfl | simp)) | (simp [*]; done)), H', ⟨by have := HJ2.out; first | omega | exact Nat.le_refl _⟩, ⟨by repeat (first | (with_reducible first | exact HB.out | apply below_alloc | apply pw_below_drewN | apply below_drew1) | exact HB.out)⟩⟩
            case rest =>
              clear HC19
              try clear c1
              try clear c2
              try clear p2
              try clear q2
              try clear hx2
              try clear p3
              try clear q3
              try clear hx3
              try clear c4
              try clear c5
              try clear p6
              try clear c7
              try clear c8
              try clear c8b0
              try clear c12
              try clear c16
              try clear c16b0
              try clear c17
              try clear c17b0
              try clear c21
              try clear c21b0
              try clear c21b1
              try clear c24
              try clear c24b0
              try clear c26
              try clear c26b0
              try clear c28
              try clear c28b0
              try clear c28b1
              try clear c29
              try clear c29b0
              try clear c29b1
              try clear p29
              try clear q29
              try clear hx29
              try clear p30
              try clear q30
              try clear hx30
              try clear hx290_0
              try clear hx290_1
              try clear hx290_2
              try clear hx290_3
              try clear hx290_4
              try clear hx290_5
              try clear hx291_0
              try clear hx291_1
              try clear hx291_2
              try clear hx291_3
              try clear hx291_4
              try clear hx291_5
              try clear hx292_0
              try clear hx292_1
              try clear hx292_2
              try clear hx292_3
              try clear hx292_4
              try clear hx292_5
              try clear hx295_0
              try clear hx295_1
              try clear hx295_2
              try clear hx295_3
              try clear hx295_4
              try clear hx295_5
              try clear hx296_0
              try clear hx296_1
              try clear hx296_2
              try clear hx296_3
              try clear hx296_4
              try clear hx296_5
              try clear hx297_0
              try clear hx297_1
              try clear hx297_2
              try clear hx297_3
              try clear hx297_4
              try clear hx297_5
              try clear hx298_0
              try clear hx298_1
              try clear hx298_2
              try clear hx298_3
              try clear hx298_4
              try clear hx298_5
              try clear hx299_0
              try clear hx299_1
              try clear hx299_2
              try clear hx299_3
              try clear hx299_4
              try clear hx299_5
              try clear hx300_0
              try clear hx300_1
              try clear hx300_2
              try clear hx300_3
              try clear hx300_4
              try clear hx300_5
              try clear p2
              try clear p290
              try clear p291
              try clear p292
              try clear p295
              try clear p296
              try clear p297
              try clear p298
              try clear p299
              try clear p300
              try clear q290
              try clear q291
              try clear q292
              try clear q295
              try clear q296
              try clear q297
              try clear q298
              try clear q299
              try clear q300
              obtain ⟨kq, x7_18, rfl, HA, HJ18, HB⟩ := hcut
              cases kq with
              | zero => exact absurd HA.out (by simp [camshaftlaw14_RtaLeast.j1])
              | succ kj18 =>
                have H := HA.out
                clear HA
                simp only [camshaftlaw14_RtaLeast.j1] at H
                have H' := Aside0.mk H
                clear H
                go_wp2
                repeat (go_quiet (fail); try go_wp2)
                go_loopg [10] kj18 (fun kq v10 w' => ∃ (x10_3 : Int), v10 = .int .i64 x10_3 ∧ Aside0 (camshaftlaw14_RtaLeast.l0 kq l0 a1 x7_18 x10_3 = some r) ∧ Aside0 (kq ≤ kj18) ∧ Aside0 (Below w.heap.size w w'))
                case atStart => exact ⟨(0), (by first | rfl | (simp; done) | (simp [*]; done)), H', ⟨Nat.le_refl _⟩, ⟨by repeat (first | (with_reducible first | exact HB.out | apply below_alloc | apply pw_below_drewN | apply below_drew1) | exact HB.out)⟩⟩
                case round =>
                  clear H'
                  try clear c1
                  try clear c2
                  try clear p2
                  try clear q2
                  try clear hx2
                  try clear p3
                  try clear q3
                  try clear hx3
                  try clear c4
                  try clear c5
                  try clear p6
                  try clear c7
                  try clear c8
                  try clear c8b0
                  try clear c12
                  try clear c16
                  try clear c16b0
                  try clear c17
                  try clear c17b0
                  try clear c21
                  try clear c21b0
                  try clear c21b1
                  try clear c24
                  try clear c24b0
                  try clear c26
                  try clear c26b0
                  try clear c28
                  try clear c28b0
                  try clear c28b1
                  try clear c29
                  try clear c29b0
                  try clear c29b1
                  try clear p29
                  try clear q29
                  try clear hx29
                  try clear p30
                  try clear q30
                  try clear hx30
                  try clear hx290_0
                  try clear hx290_1
                  try clear hx290_2
                  try clear hx290_3
                  try clear hx290_4
                  try clear hx290_5
                  try clear hx291_0
                  try clear hx291_1
                  try clear hx291_2
                  try clear hx291_3
                  try clear hx291_4
                  try clear hx291_5
                  try clear hx292_0
                  try clear hx292_1
                  try clear hx292_2
                  try clear hx292_3
                  try clear hx292_4
                  try clear hx292_5
                  try clear hx295_0
                  try clear hx295_1
                  try clear hx295_2
                  try clear hx295_3
                  try clear hx295_4
                  try clear hx295_5
                  try clear hx296_0
                  try clear hx296_1
                  try clear hx296_2
                  try clear hx296_3
                  try clear hx296_4
                  try clear hx296_5
                  try clear hx297_0
                  try clear hx297_1
                  try clear hx297_2
                  try clear hx297_3
                  try clear hx297_4
                  try clear hx297_5
                  try clear hx298_0
                  try clear hx298_1
                  try clear hx298_2
                  try clear hx298_3
                  try clear hx298_4
                  try clear hx298_5
                  try clear hx299_0
                  try clear hx299_1
                  try clear hx299_2
                  try clear hx299_3
                  try clear hx299_4
                  try clear hx299_5
                  try clear hx300_0
                  try clear hx300_1
                  try clear hx300_2
                  try clear hx300_3
                  try clear hx300_4
                  try clear hx300_5
                  try clear p2
                  try clear p29
                  try clear p290
                  try clear p291
                  try clear p292
                  try clear p295
                  try clear p296
                  try clear p297
                  try clear p298
                  try clear p299
                  try clear p3
                  try clear p30
                  try clear p300
                  try clear p6
                  try clear q2
                  try clear q29
                  try clear q290
                  try clear q291
                  try clear q292
                  try clear q295
                  try clear q296
                  try clear q297
                  try clear q298
                  try clear q299
                  try clear q3
                  try clear q30
                  try clear q300
                  obtain ⟨x10_3, rfl, HA, HK3, HB⟩ := hrel
                  cases gk with
                  | zero => exact absurd HA.out (by simp [camshaftlaw14_RtaLeast.l0])
                  | succ k3 =>
                    have H := HA.out
                    clear HA
                    simp only [camshaftlaw14_RtaLeast.l0] at H
                    by_cases c35 : x10_3 < x7_18
                    · rw [if_pos c35] at H
                      have c35b0 : decide (x10_3 < x7_18) = true := decide_eq_true c35
                      clear c35
                      replace H := Option.bind_eq_some_iff.mp H
                      obtain ⟨⟨t301, t302⟩, A360, H⟩ := H
                      replace H : (if t302 = 0 then (if t301 = x10_3 then (some false) else (camshaftlaw14_RtaLeast.l0 k3 l0 a1 x7_18 (wrap64 (x10_3 + 1)))) else (camshaftlaw14_RtaLeast.l0 k3 l0 a1 x7_18 (wrap64 (x10_3 + 1)))) = some r := H
                      have A36 := Aside0.mk A360
                      clear A360
                      by_cases c37 : t302 = 0
                      · rw [if_pos c37] at H
                        have c37b0 : (t302 == 0) = true := beq_iff_eq.mpr c37
                        have c37b1 : (t302 != 0) = false := bne_eq_false_iff_eq.mpr c37
                        clear c37
                        by_cases c38 : t301 = x10_3
                        · rw [if_pos c38] at H
                          have c38b0 : (t301 == x10_3) = true := beq_iff_eq.mpr c38
                          have c38b1 : (t301 != x10_3) = false := bne_eq_false_iff_eq.mpr c38
                          clear c38
                          obtain rfl := Option.some.inj H
                          cases hr
                        · rw [if_neg c38] at H
                          have c38b0 : (t301 == x10_3) = false := beq_eq_false_iff_ne.mpr c38
                          have c38b1 : (t301 != x10_3) = true := bne_iff_ne.mpr c38
                          have H' := Aside0.mk H
                          clear H
                          go_wp2_with (first | (go_at_call 12; (with_reducible refine (rta_Next.calls k3 _ _ l0 a1 x10_3 t301 t302 _ ?side1 ?side2 A36.out).mono ?_); (case side1 => repeat (first | exact (Kd.C_below HR0.out HB.out) | (with_reducible refine Kd.C_alloc ?_ _) | (with_reducible refine Kd.C_drewN ?_ _) | (with_reducible refine Kd.C_drew ?_))); (case side2 => exact HC0.out); rintro e w40 ⟨rfl, hb⟩; have n0_ := Aside0.mk (below_step (by repeat (first | (with_reducible first | exact HB.out | apply below_alloc | apply pw_below_drewN | apply below_drew1) | exact HB.out)) hb); clear HB; have HB := n0_; clear n0_ hb))
                          repeat (go_quiet (first | (go_at_call 12; (with_reducible refine (rta_Next.calls k3 _ _ l0 a1 x10_3 t301 t302 _ ?side1 ?side2 A36.out).mono ?_); (case side1 => repeat (first | exact (Kd.C_below HR0.out HB.out) | (with_reducible refine Kd.C_alloc ?_ _) | (with_reducible refine Kd.C_drewN ?_ _) | (with_reducible refine Kd.C_drew ?_))); (case side2 => exact HC0.out); rintro e w40 ⟨rfl, hb⟩; have n0_ := Aside0.mk (below_step (by repeat (first | (with_reducible first | exact HB.out | apply below_alloc | apply pw_below_drewN | apply below_drew1) | exact HB.out)) hb); clear HB; have HB := n0_; clear n0_ hb)); try go_wp2_with (first | (go_at_call 12; (with_reducible refine (rta_Next.calls k3 _ _ l0 a1 x10_3 t301 t302 _ ?side1 ?side2 A36.out).mono ?_); (case side1 => repeat (first | exact (Kd.C_below HR0.out HB.out) | (with_reducible refine Kd.C_alloc ?_ _) | (with_reducible refine Kd.C_drewN ?_ _) | (with_reducible refine Kd.C_drew ?_))); (case side2 => exact HC0.out); rintro e w40 ⟨rfl, hb⟩; have n0_ := Aside0.mk (below_step (by repeat (first | (with_reducible first | exact HB.out | apply below_alloc | apply pw_below_drewN | apply below_drew1) | exact HB.out)) hb); clear HB; have HB := n0_; clear n0_ hb)))
                          go_roundg k3
                          case measure => have := HJ2.out; have := HJ18.out; have := HK3.out; omega
                          case rel => exact ⟨(wrap64 (x10_3 + 1)), (by first | rfl | (simp; done) | (simp [*]; done)), H', ⟨by have := HJ2.out; have := HJ18.out; have := HK3.out; omega⟩, ⟨by repeat (first | (with_reducible first | exact HB.out | apply below_alloc | apply pw_below_drewN | apply below_drew1) | exact HB.out)⟩⟩
                      · rw [if_neg c37] at H
                        have c37b0 : (t302 == 0) = false := beq_eq_false_iff_ne.mpr c37
                        have c37b1 : (t302 != 0) = true := bne_iff_ne.mpr c37
                        have H' := Aside0.mk H
                        clear H
                        go_wp2_with (first | (go_at_call 12; (with_reducible refine (rta_Next.calls k3 _ _ l0 a1 x10_3 t301 t302 _ ?side1 ?side2 A36.out).mono ?_); (case side1 => repeat (first | exact (Kd.C_below HR0.out HB.out) | (with_reducible refine Kd.C_alloc ?_ _) | (with_reducible refine Kd.C_drewN ?_ _) | (with_reducible refine Kd.C_drew ?_))); (case side2 => exact HC0.out); rintro e w41 ⟨rfl, hb⟩; have n0_ := Aside0.mk (below_step (by repeat (first | (with_reducible first | exact HB.out | apply below_alloc | apply pw_below_drewN | apply below_drew1) | exact HB.out)) hb); clear HB; have HB := n0_; clear n0_ hb))
                        repeat (go_quiet (first | (go_at_call 12; (with_reducible refine (rta_Next.calls k3 _ _ l0 a1 x10_3 t301 t302 _ ?side1 ?side2 A36.out).mono ?_); (case side1 => repeat (first | exact (Kd.C_below HR0.out HB.out) | (with_reducible refine Kd.C_alloc ?_ _) | (with_reducible refine Kd.C_drewN ?_ _) | (with_reducible refine Kd.C_drew ?_))); (case side2 => exact HC0.out); rintro e w41 ⟨rfl, hb⟩; have n0_ := Aside0.mk (below_step (by repeat (first | (with_reducible first | exact HB.out | apply below_alloc | apply pw_below_drewN | apply below_drew1) | exact HB.out)) hb); clear HB; have HB := n0_; clear n0_ hb)); try go_wp2_with (first | (go_at_call 12; (with_reducible refine (rta_Next.calls k3 _ _ l0 a1 x10_3 t301 t302 _ ?side1 ?side2 A36.out).mono ?_); (case side1 => repeat (first | exact (Kd.C_below HR0.out HB.out) | (with_reducible refine Kd.C_alloc ?_ _) | (with_reducible refine Kd.C_drewN ?_ _) | (with_reducible refine Kd.C_drew ?_))); (case side2 => exact HC0.out); rintro e w41 ⟨rfl, hb⟩; have n0_ := Aside0.mk (below_step (by repeat (first | (with_reducible first | exact HB.out | apply below_alloc | apply pw_below_drewN | apply below_drew1) | exact HB.out)) hb); clear HB; have HB := n0_; clear n0_ hb)))
                        go_roundg k3
                        case measure => have := HJ2.out; have := HJ18.out; have := HK3.out; omega
                        case rel => exact ⟨(wrap64 (x10_3 + 1)), (by first | rfl | (simp; done) | (simp [*]; done)), H', ⟨by have := HJ2.out; have := HJ18.out; have := HK3.out; omega⟩, ⟨by repeat (first | (with_reducible first | exact HB.out | apply below_alloc | apply pw_below_drewN | apply below_drew1) | exact HB.out)⟩⟩
                    · rw [if_neg c35] at H
                      have c35b0 : decide (x10_3 < x7_18) = false := decide_eq_false c35
                      clear c35
                      replace H := Option.bind_eq_some_iff.mp H
                      obtain ⟨t303, A420, H⟩ := H
                      replace H : (some t303) = some r := H
                      have A42 := Aside0.mk A420
                      clear A420
                      obtain rfl := Option.some.inj H
                      go_wp2_with (first | (go_at_call 10; (with_reducible refine (camshaftlaw14_known.calls k3  t303 _ A42.out).mono ?_); rintro e w43 ⟨rfl, hb⟩; have n0_ := Aside0.mk (below_step (by repeat (first | (with_reducible first | exact HB.out | apply below_alloc | apply pw_below_drewN | apply below_drew1) | exact HB.out)) hb); clear HB; have HB := n0_; clear n0_ hb))
                      repeat (go_quiet (first | (go_at_call 10; (with_reducible refine (camshaftlaw14_known.calls k3  t303 _ A42.out).mono ?_); rintro e w43 ⟨rfl, hb⟩; have n0_ := Aside0.mk (below_step (by repeat (first | (with_reducible first | exact HB.out | apply below_alloc | apply pw_below_drewN | apply below_drew1) | exact HB.out)) hb); clear HB; have HB := n0_; clear n0_ hb)); try go_wp2_with (first | (go_at_call 10; (with_reducible refine (camshaftlaw14_known.calls k3  t303 _ A42.out).mono ?_); rintro e w43 ⟨rfl, hb⟩; have n0_ := Aside0.mk (below_step (by repeat (first | (with_reducible first | exact HB.out | apply below_alloc | apply pw_below_drewN | apply below_drew1) | exact HB.out)) hb); clear HB; have HB := n0_; clear n0_ hb)))
                      go_ret
                      exact ⟨by first | rfl | (simp [errW_none, errW_some] <;> rfl) | (simp only [← hji18]; first | rfl | (simp [errW_none, errW_some] <;> rfl)) | (simp [*, errW_none, errW_some] <;> rfl), by repeat (first | (with_reducible first | exact HB.out | apply below_alloc | apply pw_below_drewN | apply below_drew1) | exact HB.out)⟩
          · rw [if_neg c17] at H
            exact absurd H (by simp)
        · rw [if_neg c16] at H
          exact absurd H (by simp)

end Go.Proofs.Ytpjobjgfigplhaa.Print
