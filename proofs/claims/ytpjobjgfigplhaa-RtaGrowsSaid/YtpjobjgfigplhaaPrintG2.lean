/- WRITTEN BY A PROGRAM OF THE SESSION out of the translation: functions in plain Lean, and that the calls come to just these answers; Lean checks every line. -/
import Derived.Test.YtpjobjgfigplhaaPrint1
import Derived.Test.YtpjobjgfigplhaaPrint3
import Derived.Test.YtpjobjgfigplhaaPrint10
import Derived.Test.YtpjobjgfigplhaaPrint11
import Derived.Test.YtpjobjgfigplhaaPrint14
namespace Go.Proofs.Ytpjobjgfigplhaa.PrintG
open Go.RowKit Go.Proofs.YtpjobjgfigplhaaW.PrintWords Go.Proofs.YtpjobjgfigplhaaW.PrintLast Go.Proofs.YtpjobjgfigplhaaW.PrintMore Go.Proofs.Ytpjobjgfigplhaa.Print
attribute [local go_sem] max2_int min2_int max_two min_two max_three min_three max_four min_four   -- for this text's walks alone
set_option linter.unusedVariables false
set_option linter.unusedSimpArgs false

/-! ### camshaftlaw14_RtaGrows: function 5 -/
mutual
def camshaftlaw14_RtaGrows.j0 : Nat → List (S41) → Int → Bool → Int → Int → Option (Bool)
  | 0, _, _, _, _, _ => none
  | k + 1, x0, x1, x42, x102000, x102001 => if x42 = true then ((camshaftlaw14_known.f k).bind fun t104 => (some t104)) else ((rta_Next.f k x0 x1 (mn x102000 x102001)).bind fun bt105 => ((rta_Next.f k x0 x1 (mx x102000 x102001)).bind fun bt107 => (if bt105.2 = 0 then (if bt107.2 = 0 then (if bt105.1 > bt107.1 then (camshaftlaw14_RtaGrows.j1 k x0 x1 true) else (if bt105.2 = 4 then (camshaftlaw14_RtaGrows.j1 k x0 x1 (bt107.2 == 0)) else (camshaftlaw14_RtaGrows.j1 k x0 x1 false))) else (if bt105.2 = 4 then (camshaftlaw14_RtaGrows.j1 k x0 x1 (bt107.2 == 0)) else (camshaftlaw14_RtaGrows.j1 k x0 x1 false))) else (if bt105.2 = 4 then (camshaftlaw14_RtaGrows.j1 k x0 x1 (bt107.2 == 0)) else (camshaftlaw14_RtaGrows.j1 k x0 x1 false)))))
def camshaftlaw14_RtaGrows.j1 : Nat → List (S41) → Int → Bool → Option (Bool)
  | 0, _, _, _ => none
  | k + 1, x0, x1, x84 => if x84 = true then (some false) else ((rta_Response.f k x0 x1).bind fun bt109 => ((some (([] : List (S41)) : List (S41))).bind fun y111 => (if 0 ≤ (wrap64 ((x0.length : Int) - 1)) then (if (wrap64 ((x0.length : Int) - 1)) ≤ (x0.length : Int) then ((some (x0.take ((wrap64 ((x0.length : Int) - 1)) : Int).toNat : List (S41))).bind fun y114 => (if y111.length + y114.length < 2932031007402 then ((some (y111 ++ y114 : List (S41))).bind fun y118 => (if x1 < (y118.length : Int) then ((rta_Response.f k y118 x1).bind fun bt121 => (if bt109.2 = 0 then (if bt121.2 = 0 then (if bt121.1 > bt109.1 then (some false) else (camshaftlaw14_RtaGrows.j2 k x0 x1 bt109.1 bt109.2)) else (some false)) else (camshaftlaw14_RtaGrows.j2 k x0 x1 bt109.1 bt109.2))) else (camshaftlaw14_RtaGrows.j2 k x0 x1 bt109.1 bt109.2))) else (none))) else (none)) else (none))))
def camshaftlaw14_RtaGrows.j2 : Nat → List (S41) → Int → Int → Int → Option (Bool)
  | 0, _, _, _, _ => none
  | k + 1, x0, x1, x11, x12 => (some (([] : List (S41)) : List (S41))).bind fun y123 => (if y123.length + x0.length < 2932031007402 then (camshaftlaw14_RtaGrows.l0 k x1 x11 x12 (y123 ++ x0) 0) else (none))
def camshaftlaw14_RtaGrows.l0 : Nat → Int → Int → Int → List (S41) → Int → Option (Bool)
  | 0, _, _, _, _, _ => none
  | k + 1, x1, x11, x12, x16, x17 => if x17 < (x16.length : Int) then (if 0 ≤ x17 then (if ((rd_T41 x16 x17).f0) < 4611686018427387903 then (camshaftlaw14_RtaGrows.l0 k x1 x11 x12 (x16.set (x17 : Int).toNat (⟨wrap64 (((rd_T41 x16 x17).f0) + 1), (rd_T41 x16 x17).f1, (rd_T41 x16 x17).f2, (rd_T41 x16 x17).f3, (rd_T41 x16 x17).f4, (rd_T41 x16 x17).f5⟩ : S41)) (wrap64 (x17 + 1))) else (camshaftlaw14_RtaGrows.l0 k x1 x11 x12 x16 (wrap64 (x17 + 1)))) else (none)) else ((rta_Response.f k x16 x1).bind fun bt132 => (if bt132.2 = 0 then (if x12 = 0 then (if bt132.1 > x11 then ((camshaftlaw14_known.f k).bind fun t134 => (some t134)) else (some false)) else (some false)) else ((camshaftlaw14_known.f k).bind fun t135 => (some t135))))
end
def camshaftlaw14_RtaGrows.f (k : Nat) (l0 : List (S41)) (a1 : Int) (a2_0 : Int) (a2_1 : Int) : Option (Bool) := (camshaftlaw14_light.f k l0).bind fun t102 => (if t102 = true then ((rta_Right.f k l0).bind fun t103 => (if t103 = true then (if a1 < 0 then (camshaftlaw14_RtaGrows.j0 k l0 a1 true a2_0 a2_1) else (if a1 ≥ (l0.length : Int) then (camshaftlaw14_RtaGrows.j0 k l0 a1 true a2_0 a2_1) else (camshaftlaw14_RtaGrows.j0 k l0 a1 (decide ((l0.length : Int) < 1)) a2_0 a2_1))) else (camshaftlaw14_RtaGrows.j0 k l0 a1 true a2_0 a2_1))) else (camshaftlaw14_RtaGrows.j0 k l0 a1 true a2_0 a2_1))
theorem camshaftlaw14_RtaGrows.mono_l : ∀ k, (∀ y0 y1 y2 y3 y4, LeO (camshaftlaw14_RtaGrows.j0 k y0 y1 y2 y3 y4) (camshaftlaw14_RtaGrows.j0 (k + 1) y0 y1 y2 y3 y4)) ∧ (∀ y0 y1 y2, LeO (camshaftlaw14_RtaGrows.j1 k y0 y1 y2) (camshaftlaw14_RtaGrows.j1 (k + 1) y0 y1 y2)) ∧ (∀ y0 y1 y2 y3, LeO (camshaftlaw14_RtaGrows.j2 k y0 y1 y2 y3) (camshaftlaw14_RtaGrows.j2 (k + 1) y0 y1 y2 y3)) ∧ (∀ y0 y1 y2 y3 y4, LeO (camshaftlaw14_RtaGrows.l0 k y0 y1 y2 y3 y4) (camshaftlaw14_RtaGrows.l0 (k + 1) y0 y1 y2 y3 y4))
  | 0 => ⟨fun _ _ _ _ _ r h => by simp [camshaftlaw14_RtaGrows.j0] at h, fun _ _ _ r h => by simp [camshaftlaw14_RtaGrows.j1] at h, fun _ _ _ _ r h => by simp [camshaftlaw14_RtaGrows.j2] at h, fun _ _ _ _ _ r h => by simp [camshaftlaw14_RtaGrows.l0] at h⟩
  | k + 1 => by
    obtain ⟨ih0, ih1, ih2, ih3⟩ := camshaftlaw14_RtaGrows.mono_l k
    refine ⟨?_, ?_, ?_, ?_⟩
    · intro y0 y1 y2 y3 y4
      unfold camshaftlaw14_RtaGrows.j0
      repeat' first
      | (with_reducible exact ih0 _ _ _ _ _)
      | (with_reducible exact ih1 _ _ _)
      | (with_reducible exact ih2 _ _ _ _)
      | (with_reducible exact ih3 _ _ _ _ _)
      | (with_reducible exact camshaftlaw14_known.mono _)
      | (with_reducible exact camshaftlaw14_light.mono _ _)
      | (with_reducible exact rta_Next.mono _ _ _ _)
      | (with_reducible exact rta_Response.mono _ _ _)
      | (with_reducible exact rta_Right.mono _ _)
      | (with_reducible exact LeO.refl _)
      | (with_reducible exact LeO.none _)
      | (with_reducible refine LeO.ite ?_ ?_)
      | (with_reducible refine LeO.bind ?_ (fun _ => ?_))
      | exact ih0 _ _ _ _ _
      | exact ih1 _ _ _
      | exact ih2 _ _ _ _
      | exact ih3 _ _ _ _ _
      | exact camshaftlaw14_known.mono _
      | exact camshaftlaw14_light.mono _ _
      | exact rta_Next.mono _ _ _ _
      | exact rta_Response.mono _ _ _
      | exact rta_Right.mono _ _
      | exact LeO.none _
      | refine LeO.ite ?_ ?_
      | refine LeO.bind ?_ (fun _ => ?_)
    · intro y0 y1 y2
      unfold camshaftlaw14_RtaGrows.j1
      repeat' first
      | (with_reducible exact ih0 _ _ _ _ _)
      | (with_reducible exact ih1 _ _ _)
      | (with_reducible exact ih2 _ _ _ _)
      | (with_reducible exact ih3 _ _ _ _ _)
      | (with_reducible exact camshaftlaw14_known.mono _)
      | (with_reducible exact camshaftlaw14_light.mono _ _)
      | (with_reducible exact rta_Next.mono _ _ _ _)
      | (with_reducible exact rta_Response.mono _ _ _)
      | (with_reducible exact rta_Right.mono _ _)
      | (with_reducible exact LeO.refl _)
      | (with_reducible exact LeO.none _)
      | (with_reducible refine LeO.ite ?_ ?_)
      | (with_reducible refine LeO.bind ?_ (fun _ => ?_))
      | exact ih0 _ _ _ _ _
      | exact ih1 _ _ _
      | exact ih2 _ _ _ _
      | exact ih3 _ _ _ _ _
      | exact camshaftlaw14_known.mono _
      | exact camshaftlaw14_light.mono _ _
      | exact rta_Next.mono _ _ _ _
      | exact rta_Response.mono _ _ _
      | exact rta_Right.mono _ _
      | exact LeO.none _
      | refine LeO.ite ?_ ?_
      | refine LeO.bind ?_ (fun _ => ?_)
    · intro y0 y1 y2 y3
      unfold camshaftlaw14_RtaGrows.j2
      repeat' first
      | (with_reducible exact ih0 _ _ _ _ _)
      | (with_reducible exact ih1 _ _ _)
      | (with_reducible exact ih2 _ _ _ _)
      | (with_reducible exact ih3 _ _ _ _ _)
      | (with_reducible exact camshaftlaw14_known.mono _)
      | (with_reducible exact camshaftlaw14_light.mono _ _)
      | (with_reducible exact rta_Next.mono _ _ _ _)
      | (with_reducible exact rta_Response.mono _ _ _)
      | (with_reducible exact rta_Right.mono _ _)
      | (with_reducible exact LeO.refl _)
      | (with_reducible exact LeO.none _)
      | (with_reducible refine LeO.ite ?_ ?_)
      | (with_reducible refine LeO.bind ?_ (fun _ => ?_))
      | exact ih0 _ _ _ _ _
      | exact ih1 _ _ _
      | exact ih2 _ _ _ _
      | exact ih3 _ _ _ _ _
      | exact camshaftlaw14_known.mono _
      | exact camshaftlaw14_light.mono _ _
      | exact rta_Next.mono _ _ _ _
      | exact rta_Response.mono _ _ _
      | exact rta_Right.mono _ _
      | exact LeO.none _
      | refine LeO.ite ?_ ?_
      | refine LeO.bind ?_ (fun _ => ?_)
    · intro y0 y1 y2 y3 y4
      unfold camshaftlaw14_RtaGrows.l0
      repeat' first
      | (with_reducible exact ih0 _ _ _ _ _)
      | (with_reducible exact ih1 _ _ _)
      | (with_reducible exact ih2 _ _ _ _)
      | (with_reducible exact ih3 _ _ _ _ _)
      | (with_reducible exact camshaftlaw14_known.mono _)
      | (with_reducible exact camshaftlaw14_light.mono _ _)
      | (with_reducible exact rta_Next.mono _ _ _ _)
      | (with_reducible exact rta_Response.mono _ _ _)
      | (with_reducible exact rta_Right.mono _ _)
      | (with_reducible exact LeO.refl _)
      | (with_reducible exact LeO.none _)
      | (with_reducible refine LeO.ite ?_ ?_)
      | (with_reducible refine LeO.bind ?_ (fun _ => ?_))
      | exact ih0 _ _ _ _ _
      | exact ih1 _ _ _
      | exact ih2 _ _ _ _
      | exact ih3 _ _ _ _ _
      | exact camshaftlaw14_known.mono _
      | exact camshaftlaw14_light.mono _ _
      | exact rta_Next.mono _ _ _ _
      | exact rta_Response.mono _ _ _
      | exact rta_Right.mono _ _
      | exact LeO.none _
      | refine LeO.ite ?_ ?_
      | refine LeO.bind ?_ (fun _ => ?_)
theorem camshaftlaw14_RtaGrows.mono : ∀ a0 a1 a2 a3 k, LeO (camshaftlaw14_RtaGrows.f k a0 a1 a2 a3) (camshaftlaw14_RtaGrows.f (k + 1) a0 a1 a2 a3) := by
  intro a0 a1 a2 a3 k
  obtain ⟨ih0, ih1, ih2, ih3⟩ := camshaftlaw14_RtaGrows.mono_l k
  unfold camshaftlaw14_RtaGrows.f
  repeat' first
      | (with_reducible exact ih0 _ _ _ _ _)
      | (with_reducible exact ih1 _ _ _)
      | (with_reducible exact ih2 _ _ _ _)
      | (with_reducible exact ih3 _ _ _ _ _)
      | (with_reducible exact camshaftlaw14_known.mono _)
      | (with_reducible exact camshaftlaw14_light.mono _ _)
      | (with_reducible exact rta_Next.mono _ _ _ _)
      | (with_reducible exact rta_Response.mono _ _ _)
      | (with_reducible exact rta_Right.mono _ _)
      | (with_reducible exact LeO.refl _)
      | (with_reducible exact LeO.none _)
      | (with_reducible refine LeO.ite ?_ ?_)
      | (with_reducible refine LeO.bind ?_ (fun _ => ?_))
      | exact ih0 _ _ _ _ _
      | exact ih1 _ _ _
      | exact ih2 _ _ _ _
      | exact ih3 _ _ _ _ _
      | exact camshaftlaw14_known.mono _
      | exact camshaftlaw14_light.mono _ _
      | exact rta_Next.mono _ _ _ _
      | exact rta_Response.mono _ _ _
      | exact rta_Right.mono _ _
      | exact LeO.none _
      | refine LeO.ite ?_ ?_
      | refine LeO.bind ?_ (fun _ => ?_)
set_option maxHeartbeats 8000000 in
set_option maxRecDepth 100000 in
theorem camshaftlaw14_RtaGrows.calls (k : Nat) (A0 : Option Addr) (c0 : Nat) (l0 : List (S41)) (a1 : Int) (a2_0 : Int) (a2_1 : Int) (r : Bool) (w : World) (hr0 : Kd.C k41 w A0 l0.length l0) (hc0 : l0.length ≤ c0) (hr : r = true) (h : camshaftlaw14_RtaGrows.f k l0 a1 a2_0 a2_1 = some r) :
    Calls Try.prog 5 #[.slice A0 l0.length c0, .int .i64 a1, .agg #[.int .i64 a2_0, .int .i64 a2_1]] w fun e w' => e = .returned (.bool r) ∧ Below w.heap.size w w' := by
  have hu43 := Try.underlying43
  have HR0 := Aside0.mk hr0
  have HC0 := Aside0.mk hc0
  clear hr0 hc0
  have HB := Aside0.mk (Below.refl w.heap.size w)
  have H : ((camshaftlaw14_light.f k l0).bind fun t102 => (if t102 = true then ((rta_Right.f k l0).bind fun t103 => (if t103 = true then (if a1 < 0 then (camshaftlaw14_RtaGrows.j0 k l0 a1 true a2_0 a2_1) else (if a1 ≥ (l0.length : Int) then (camshaftlaw14_RtaGrows.j0 k l0 a1 true a2_0 a2_1) else (camshaftlaw14_RtaGrows.j0 k l0 a1 (decide ((l0.length : Int) < 1)) a2_0 a2_1))) else (camshaftlaw14_RtaGrows.j0 k l0 a1 true a2_0 a2_1))) else (camshaftlaw14_RtaGrows.j0 k l0 a1 true a2_0 a2_1))) = some r := h
  clear h
  have HC4 := Aside0.mk H
  clear H
  go_enter Try.func5, Try.ntmps5
  go_upto_region 1 with (first | ((with_reducible refine gate_dst (N := 5) rfl ?_); (try (refine gate_guard (by rfl) ?_; dsimp only)); refine box_event ?hg (N := 5) ?hd (cs := #[.int .i64 a2_0, .int .i64 a2_1]) (t := 43) ?hr ?_; (case hd => rfl); (case hg => rfl); (case hr => first | (go_simp; done) | (go_simp; rfl)); intro gb101 hg w5 hbox hb; have n0_ := Aside0.mk (below_step (by repeat (first | (with_reducible first | exact HB.out | apply below_alloc | apply pw_below_drewN | apply below_drew1) | exact HB.out)) hb); have n1_ := Aside0.mk (hbox); have n2_ := Aside0.mk ((by rw [hg]; exact (below_size (by repeat (first | (with_reducible first | exact HB.out | apply below_alloc | apply pw_below_drewN | apply below_drew1) | exact HB.out))) : w.heap.size ≤ gb101)); have n3_ := Aside0.mk ((by rw [hg]; exact (below_size (by repeat (first | (with_reducible first | exact HB.out | apply below_alloc | apply pw_below_drewN | apply below_drew1) | exact HB.out))) : w.heap.size ≤ gb101)); clear HB; have HB := n0_; have BK101 := n1_; have GW101 := n2_; have GE101 := n3_; clear n0_ n1_ n2_ n3_; clear hb hbox hg))
  (try simp only [Act.put, List.setIfInBounds_toArray, List.set_cons_zero, List.set_cons_succ])
  go_cut [42] (fun v42 wc => ∃ (kq : Nat) (x42_3 : Bool), v42 = .bool x42_3 ∧ Aside0 (camshaftlaw14_RtaGrows.j0 kq l0 a1 x42_3 a2_0 a2_1 = some r) ∧ Aside0 (kq ≤ k) ∧ Aside0 (wc.heap[gb101]? = some (.cells #[.int .i64 a2_0, .int .i64 a2_1] 43 (0, 0))) ∧ Aside0 (Below w.heap.size w wc))
  case first =>
    have H := HC4.out
    clear HC4
    replace H := Option.bind_eq_some_iff.mp H
    obtain ⟨t102, A60, H⟩ := H
    replace H : (if t102 = true then ((rta_Right.f k l0).bind fun t103 => (if t103 = true then (if a1 < 0 then (camshaftlaw14_RtaGrows.j0 k l0 a1 true a2_0 a2_1) else (if a1 ≥ (l0.length : Int) then (camshaftlaw14_RtaGrows.j0 k l0 a1 true a2_0 a2_1) else (camshaftlaw14_RtaGrows.j0 k l0 a1 (decide ((l0.length : Int) < 1)) a2_0 a2_1))) else (camshaftlaw14_RtaGrows.j0 k l0 a1 true a2_0 a2_1))) else (camshaftlaw14_RtaGrows.j0 k l0 a1 true a2_0 a2_1)) = some r := H
    have A6 := Aside0.mk A60
    clear A60
    by_cases c7 : t102 = true
    · subst c7
      have H1 : ((rta_Right.f k l0).bind fun t103 => (if t103 = true then (if a1 < 0 then (camshaftlaw14_RtaGrows.j0 k l0 a1 true a2_0 a2_1) else (if a1 ≥ (l0.length : Int) then (camshaftlaw14_RtaGrows.j0 k l0 a1 true a2_0 a2_1) else (camshaftlaw14_RtaGrows.j0 k l0 a1 (decide ((l0.length : Int) < 1)) a2_0 a2_1))) else (camshaftlaw14_RtaGrows.j0 k l0 a1 true a2_0 a2_1))) = some r := by rw [if_pos rfl] at H; exact H
      clear H
      have H := H1
      clear H1
      replace H := Option.bind_eq_some_iff.mp H
      obtain ⟨t103, A80, H⟩ := H
      replace H : (if t103 = true then (if a1 < 0 then (camshaftlaw14_RtaGrows.j0 k l0 a1 true a2_0 a2_1) else (if a1 ≥ (l0.length : Int) then (camshaftlaw14_RtaGrows.j0 k l0 a1 true a2_0 a2_1) else (camshaftlaw14_RtaGrows.j0 k l0 a1 (decide ((l0.length : Int) < 1)) a2_0 a2_1))) else (camshaftlaw14_RtaGrows.j0 k l0 a1 true a2_0 a2_1)) = some r := H
      have A8 := Aside0.mk A80
      clear A80
      by_cases c9 : t103 = true
      · subst c9
        have H1 : (if a1 < 0 then (camshaftlaw14_RtaGrows.j0 k l0 a1 true a2_0 a2_1) else (if a1 ≥ (l0.length : Int) then (camshaftlaw14_RtaGrows.j0 k l0 a1 true a2_0 a2_1) else (camshaftlaw14_RtaGrows.j0 k l0 a1 (decide ((l0.length : Int) < 1)) a2_0 a2_1))) = some r := by rw [if_pos rfl] at H; exact H
        clear H
        have H := H1
        clear H1
        by_cases c10 : a1 < 0
        · rw [if_pos c10] at H
          have c10b0 : decide (a1 < 0) = true := decide_eq_true c10
          clear c10
          (first | rw [c10b0] | (simp only [i64_w, i32_w]; rw [c10b0]) | skip)
          have H' := Aside0.mk H
          clear H
          go_wp2_with (first | ((with_reducible refine gate_callee (f := 9) rfl ?_); refine goesL_ (some 21) rfl rfl Try.func9 (by kernel_rfl) rfl #[.slice A0 l0.length c0] rfl (by (try simp only [List.map_toArray, List.map_cons, List.map_nil]); first | done | rfl | (simp only [List.length_drop, List.length_take]; rfl)) ?_; (with_reducible refine (camshaftlaw14_light.calls k _ _ l0 true _ ?side1 ?side2 A6.out).mono ?_); (case side1 => repeat (first | exact (Kd.C_below HR0.out HB.out) | (with_reducible refine Kd.C_alloc ?_ _) | (with_reducible refine Kd.C_drewN ?_ _) | (with_reducible refine Kd.C_drew ?_))); (case side2 => exact HC0.out); rintro e w' ⟨rfl, ⟨nd, rfl⟩⟩; refine ⟨_, rfl, ?_⟩) | (go_at_call 18; (with_reducible refine (rta_Right.calls k _ _ l0 true _ ?side1 ?side2 A8.out).mono ?_); (case side1 => repeat (first | exact (Kd.C_below HR0.out (by repeat (first | (with_reducible first | exact HB.out | apply below_alloc | apply pw_below_drewN | apply below_drew1 | refine below_set ?_ GE101.out) | exact HB.out))) | (with_reducible refine Kd.C_alloc ?_ _) | (with_reducible refine Kd.C_drewN ?_ _) | (with_reducible refine Kd.C_drew ?_))); (case side2 => exact HC0.out); rintro e w11 ⟨rfl, hb⟩; have n0_ := Aside0.mk (blk_below (g := gb101) (o := .cells #[.int .i64 a2_0, .int .i64 a2_1] 43 (0, 0)) (by (with_reducible repeat (first | refine blk_drewN ?_ _ | refine blk_drew ?_ | refine blk_alloc ?_ _)); exact BK101.out) hb); have n1_ := Aside0.mk (below_step (by repeat (first | (with_reducible first | exact HB.out | apply below_alloc | apply pw_below_drewN | apply below_drew1 | refine below_set ?_ GE101.out) | exact HB.out)) hb); clear BK101; clear HB; have BK101 := n0_; have HB := n1_; clear n0_ n1_; (try clear hb); (try clear hb2); (try clear hk); (try clear hi)))
          go_meet
          case rel => exact ⟨_, (true), (by first | rfl | (simp; done) | (simp [*]; done)), H', ⟨by first | omega | exact Nat.le_refl _⟩, ⟨by (with_reducible repeat (first | refine blk_drewN ?_ _ | refine blk_drew ?_ | refine blk_alloc ?_ _)); exact BK101.out⟩, ⟨by repeat (first | (with_reducible first | exact HB.out | apply below_alloc | apply pw_below_drewN | apply below_drew1 | refine below_set ?_ GE101.out) | exact HB.out)⟩⟩
        · rw [if_neg c10] at H
          have c10b0 : decide (a1 < 0) = false := decide_eq_false c10
          clear c10
          (first | rw [c10b0] | (simp only [i64_w, i32_w]; rw [c10b0]) | skip)
          by_cases c12 : a1 ≥ (l0.length : Int)
          · rw [if_pos c12] at H
            have c12b0 : decide ((l0.length : Int) ≤ a1) = true := decide_eq_true c12
            clear c12
            have H' := Aside0.mk H
            clear H
            go_wp2_with (first | ((with_reducible refine gate_callee (f := 9) rfl ?_); refine goesL_ (some 21) rfl rfl Try.func9 (by kernel_rfl) rfl #[.slice A0 l0.length c0] rfl (by (try simp only [List.map_toArray, List.map_cons, List.map_nil]); first | done | rfl | (simp only [List.length_drop, List.length_take]; rfl)) ?_; (with_reducible refine (camshaftlaw14_light.calls k _ _ l0 true _ ?side1 ?side2 A6.out).mono ?_); (case side1 => repeat (first | exact (Kd.C_below HR0.out HB.out) | (with_reducible refine Kd.C_alloc ?_ _) | (with_reducible refine Kd.C_drewN ?_ _) | (with_reducible refine Kd.C_drew ?_))); (case side2 => exact HC0.out); rintro e w' ⟨rfl, ⟨nd, rfl⟩⟩; refine ⟨_, rfl, ?_⟩) | (go_at_call 18; (with_reducible refine (rta_Right.calls k _ _ l0 true _ ?side1 ?side2 A8.out).mono ?_); (case side1 => repeat (first | exact (Kd.C_below HR0.out (by repeat (first | (with_reducible first | exact HB.out | apply below_alloc | apply pw_below_drewN | apply below_drew1 | refine below_set ?_ GE101.out) | exact HB.out))) | (with_reducible refine Kd.C_alloc ?_ _) | (with_reducible refine Kd.C_drewN ?_ _) | (with_reducible refine Kd.C_drew ?_))); (case side2 => exact HC0.out); rintro e w13 ⟨rfl, hb⟩; have n0_ := Aside0.mk (blk_below (g := gb101) (o := .cells #[.int .i64 a2_0, .int .i64 a2_1] 43 (0, 0)) (by (with_reducible repeat (first | refine blk_drewN ?_ _ | refine blk_drew ?_ | refine blk_alloc ?_ _)); exact BK101.out) hb); have n1_ := Aside0.mk (below_step (by repeat (first | (with_reducible first | exact HB.out | apply below_alloc | apply pw_below_drewN | apply below_drew1 | refine below_set ?_ GE101.out) | exact HB.out)) hb); clear BK101; clear HB; have BK101 := n0_; have HB := n1_; clear n0_ n1_; (try clear hb); (try clear hb2); (try clear hk); (try clear hi)))
            go_meet
            case rel => exact ⟨_, (true), (by first | rfl | (simp; done) | (simp [*]; done)), H', ⟨by first | omega | exact Nat.le_refl _⟩, ⟨by (with_reducible repeat (first | refine blk_drewN ?_ _ | refine blk_drew ?_ | refine blk_alloc ?_ _)); exact BK101.out⟩, ⟨by repeat (first | (with_reducible first | exact HB.out | apply below_alloc | apply pw_below_drewN | apply below_drew1 | refine below_set ?_ GE101.out) | exact HB.out)⟩⟩
          · rw [if_neg c12] at H
            have c12b0 : decide ((l0.length : Int) ≤ a1) = false := decide_eq_false c12
            clear c12
            have H' := Aside0.mk H
            clear H
            go_wp2_with (first | ((with_reducible refine gate_callee (f := 9) rfl ?_); refine goesL_ (some 21) rfl rfl Try.func9 (by kernel_rfl) rfl #[.slice A0 l0.length c0] rfl (by (try simp only [List.map_toArray, List.map_cons, List.map_nil]); first | done | rfl | (simp only [List.length_drop, List.length_take]; rfl)) ?_; (with_reducible refine (camshaftlaw14_light.calls k _ _ l0 true _ ?side1 ?side2 A6.out).mono ?_); (case side1 => repeat (first | exact (Kd.C_below HR0.out HB.out) | (with_reducible refine Kd.C_alloc ?_ _) | (with_reducible refine Kd.C_drewN ?_ _) | (with_reducible refine Kd.C_drew ?_))); (case side2 => exact HC0.out); rintro e w' ⟨rfl, ⟨nd, rfl⟩⟩; refine ⟨_, rfl, ?_⟩) | (go_at_call 18; (with_reducible refine (rta_Right.calls k _ _ l0 true _ ?side1 ?side2 A8.out).mono ?_); (case side1 => repeat (first | exact (Kd.C_below HR0.out (by repeat (first | (with_reducible first | exact HB.out | apply below_alloc | apply pw_below_drewN | apply below_drew1 | refine below_set ?_ GE101.out) | exact HB.out))) | (with_reducible refine Kd.C_alloc ?_ _) | (with_reducible refine Kd.C_drewN ?_ _) | (with_reducible refine Kd.C_drew ?_))); (case side2 => exact HC0.out); rintro e w14 ⟨rfl, hb⟩; have n0_ := Aside0.mk (blk_below (g := gb101) (o := .cells #[.int .i64 a2_0, .int .i64 a2_1] 43 (0, 0)) (by (with_reducible repeat (first | refine blk_drewN ?_ _ | refine blk_drew ?_ | refine blk_alloc ?_ _)); exact BK101.out) hb); have n1_ := Aside0.mk (below_step (by repeat (first | (with_reducible first | exact HB.out | apply below_alloc | apply pw_below_drewN | apply below_drew1 | refine below_set ?_ GE101.out) | exact HB.out)) hb); clear BK101; clear HB; have BK101 := n0_; have HB := n1_; clear n0_ n1_; (try clear hb); (try clear hb2); (try clear hk); (try clear hi)))
            go_meet
            case rel => exact ⟨_, (decide ((l0.length : Int) < 1)), (by first | rfl | (simp; done) | (simp [*]; done)), H', ⟨by first | omega | exact Nat.le_refl _⟩, ⟨by (with_reducible repeat (first | refine blk_drewN ?_ _ | refine blk_drew ?_ | refine blk_alloc ?_ _)); exact BK101.out⟩, ⟨by repeat (first | (with_reducible first | exact HB.out | apply below_alloc | apply pw_below_drewN | apply below_drew1 | refine below_set ?_ GE101.out) | exact HB.out)⟩⟩
      · replace c9 := Bool.eq_false_iff.mpr c9
        subst c9
        have H1 : (camshaftlaw14_RtaGrows.j0 k l0 a1 true a2_0 a2_1) = some r := by rw [if_neg (show ¬ (false = true) by decide)] at H; exact H
        clear H
        have H := H1
        clear H1
        have H' := Aside0.mk H
        clear H
        go_wp2_with (first | ((with_reducible refine gate_callee (f := 9) rfl ?_); refine goesL_ (some 21) rfl rfl Try.func9 (by kernel_rfl) rfl #[.slice A0 l0.length c0] rfl (by (try simp only [List.map_toArray, List.map_cons, List.map_nil]); first | done | rfl | (simp only [List.length_drop, List.length_take]; rfl)) ?_; (with_reducible refine (camshaftlaw14_light.calls k _ _ l0 true _ ?side1 ?side2 A6.out).mono ?_); (case side1 => repeat (first | exact (Kd.C_below HR0.out HB.out) | (with_reducible refine Kd.C_alloc ?_ _) | (with_reducible refine Kd.C_drewN ?_ _) | (with_reducible refine Kd.C_drew ?_))); (case side2 => exact HC0.out); rintro e w' ⟨rfl, ⟨nd, rfl⟩⟩; refine ⟨_, rfl, ?_⟩) | (go_at_call 18; (with_reducible refine (rta_Right.calls k _ _ l0 false _ ?side1 ?side2 A8.out).mono ?_); (case side1 => repeat (first | exact (Kd.C_below HR0.out (by repeat (first | (with_reducible first | exact HB.out | apply below_alloc | apply pw_below_drewN | apply below_drew1 | refine below_set ?_ GE101.out) | exact HB.out))) | (with_reducible refine Kd.C_alloc ?_ _) | (with_reducible refine Kd.C_drewN ?_ _) | (with_reducible refine Kd.C_drew ?_))); (case side2 => exact HC0.out); rintro e w15 ⟨rfl, hb⟩; have n0_ := Aside0.mk (blk_below (g := gb101) (o := .cells #[.int .i64 a2_0, .int .i64 a2_1] 43 (0, 0)) (by (with_reducible repeat (first | refine blk_drewN ?_ _ | refine blk_drew ?_ | refine blk_alloc ?_ _)); exact BK101.out) hb); have n1_ := Aside0.mk (below_step (by repeat (first | (with_reducible first | exact HB.out | apply below_alloc | apply pw_below_drewN | apply below_drew1 | refine below_set ?_ GE101.out) | exact HB.out)) hb); clear BK101; clear HB; have BK101 := n0_; have HB := n1_; clear n0_ n1_; (try clear hb); (try clear hb2); (try clear hk); (try clear hi)))
        go_meet
        case rel => exact ⟨_, (true), (by first | rfl | (simp; done) | (simp [*]; done)), H', ⟨by first | omega | exact Nat.le_refl _⟩, ⟨by (with_reducible repeat (first | refine blk_drewN ?_ _ | refine blk_drew ?_ | refine blk_alloc ?_ _)); exact BK101.out⟩, ⟨by repeat (first | (with_reducible first | exact HB.out | apply below_alloc | apply pw_below_drewN | apply below_drew1 | refine below_set ?_ GE101.out) | exact HB.out)⟩⟩
    · replace c7 := Bool.eq_false_iff.mpr c7
      subst c7
      have H1 : (camshaftlaw14_RtaGrows.j0 k l0 a1 true a2_0 a2_1) = some r := by rw [if_neg (show ¬ (false = true) by decide)] at H; exact H
      clear H
      have H := H1
      clear H1
      have H' := Aside0.mk H
      clear H
      go_wp2_with (first | ((with_reducible refine gate_callee (f := 9) rfl ?_); refine goesL_ (some 21) rfl rfl Try.func9 (by kernel_rfl) rfl #[.slice A0 l0.length c0] rfl (by (try simp only [List.map_toArray, List.map_cons, List.map_nil]); first | done | rfl | (simp only [List.length_drop, List.length_take]; rfl)) ?_; (with_reducible refine (camshaftlaw14_light.calls k _ _ l0 false _ ?side1 ?side2 A6.out).mono ?_); (case side1 => repeat (first | exact (Kd.C_below HR0.out HB.out) | (with_reducible refine Kd.C_alloc ?_ _) | (with_reducible refine Kd.C_drewN ?_ _) | (with_reducible refine Kd.C_drew ?_))); (case side2 => exact HC0.out); rintro e w' ⟨rfl, ⟨nd, rfl⟩⟩; refine ⟨_, rfl, ?_⟩))
      go_meet
      case rel => exact ⟨_, (true), (by first | rfl | (simp; done) | (simp [*]; done)), H', ⟨by first | omega | exact Nat.le_refl _⟩, ⟨by (with_reducible repeat (first | refine blk_drewN ?_ _ | refine blk_drew ?_ | refine blk_alloc ?_ _)); exact BK101.out⟩, ⟨by repeat (first | (with_reducible first | exact HB.out | apply below_alloc | apply pw_below_drewN | apply below_drew1 | refine below_set ?_ GE101.out) | exact HB.out)⟩⟩
  case rest =>
    clear HC4
    try clear c1
    try clear p2
    try clear c5
    try clear c7
    try clear c9
    try clear c10
    try clear c10b0
    try clear c12
    try clear c12b0
    obtain ⟨kq, x42_3, rfl, HA, HJ3, BK101, HB⟩ := hcut
    cases kq with
    | zero => exact absurd HA.out (by simp [camshaftlaw14_RtaGrows.j0])
    | succ kj3 =>
      have H := HA.out
      clear HA
      simp only [camshaftlaw14_RtaGrows.j0] at H
      by_cases c16 : x42_3 = true
      · subst c16
        have H1 : ((camshaftlaw14_known.f kj3).bind fun t104 => (some t104)) = some r := by rw [if_pos rfl] at H; exact H
        clear H
        have H := H1
        clear H1
        replace H := Option.bind_eq_some_iff.mp H
        obtain ⟨t104, A170, H⟩ := H
        replace H : (some t104) = some r := H
        have A17 := Aside0.mk A170
        clear A170
        obtain rfl := Option.some.inj H
        go_wp2_with (first | ((with_reducible refine gate_callee (f := 10) rfl ?_); refine goesL_ (some 43) rfl rfl Try.func10 (by kernel_rfl) rfl #[] rfl (by (try simp only [List.map_toArray, List.map_cons, List.map_nil]); first | done | rfl | (simp only [List.length_drop, List.length_take]; rfl)) ?_; (with_reducible refine (camshaftlaw14_known.calls kj3  t104 _ A17.out).mono ?_); rintro e w18 ⟨rfl, hb⟩; refine ⟨_, rfl, ?_⟩; have n0_ := Aside0.mk (blk_below (g := gb101) (o := .cells #[.int .i64 a2_0, .int .i64 a2_1] 43 (0, 0)) (by (with_reducible repeat (first | refine blk_drewN ?_ _ | refine blk_drew ?_ | refine blk_alloc ?_ _)); exact BK101.out) hb); have n1_ := Aside0.mk (below_step (by repeat (first | (with_reducible first | exact HB.out | apply below_alloc | apply pw_below_drewN | apply below_drew1 | refine below_set ?_ GE101.out) | exact HB.out)) hb); clear BK101; clear HB; have BK101 := n0_; have HB := n1_; clear n0_ n1_; (try clear hb); (try clear hb2); (try clear hk); (try clear hi)))
        go_ret
        exact ⟨by first | rfl | (simp [errW_none, errW_some] <;> rfl) | (simp [*, errW_none, errW_some] <;> rfl), by repeat (first | (with_reducible first | exact HB.out | apply below_alloc | apply pw_below_drewN | apply below_drew1 | refine below_set ?_ GE101.out) | exact HB.out)⟩
      · replace c16 := Bool.eq_false_iff.mpr c16
        subst c16
        have H1 : ((rta_Next.f kj3 l0 a1 (mn a2_0 a2_1)).bind fun bt105 => ((rta_Next.f kj3 l0 a1 (mx a2_0 a2_1)).bind fun bt107 => (if bt105.2 = 0 then (if bt107.2 = 0 then (if bt105.1 > bt107.1 then (camshaftlaw14_RtaGrows.j1 kj3 l0 a1 true) else (if bt105.2 = 4 then (camshaftlaw14_RtaGrows.j1 kj3 l0 a1 (bt107.2 == 0)) else (camshaftlaw14_RtaGrows.j1 kj3 l0 a1 false))) else (if bt105.2 = 4 then (camshaftlaw14_RtaGrows.j1 kj3 l0 a1 (bt107.2 == 0)) else (camshaftlaw14_RtaGrows.j1 kj3 l0 a1 false))) else (if bt105.2 = 4 then (camshaftlaw14_RtaGrows.j1 kj3 l0 a1 (bt107.2 == 0)) else (camshaftlaw14_RtaGrows.j1 kj3 l0 a1 false))))) = some r := by rw [if_neg (show ¬ (false = true) by decide)] at H; exact H
        clear H
        have H := H1
        clear H1
        obtain ⟨ji19, hji19⟩ : ∃ j_ : Int, (mn a2_0 a2_1) = j_ := ⟨_, rfl⟩
        replace H : ((rta_Next.f kj3 l0 a1 (ji19)).bind fun bt105 => ((rta_Next.f kj3 l0 a1 (mx a2_0 a2_1)).bind fun bt107 => (if bt105.2 = 0 then (if bt107.2 = 0 then (if bt105.1 > bt107.1 then (camshaftlaw14_RtaGrows.j1 kj3 l0 a1 true) else (if bt105.2 = 4 then (camshaftlaw14_RtaGrows.j1 kj3 l0 a1 (bt107.2 == 0)) else (camshaftlaw14_RtaGrows.j1 kj3 l0 a1 false))) else (if bt105.2 = 4 then (camshaftlaw14_RtaGrows.j1 kj3 l0 a1 (bt107.2 == 0)) else (camshaftlaw14_RtaGrows.j1 kj3 l0 a1 false))) else (if bt105.2 = 4 then (camshaftlaw14_RtaGrows.j1 kj3 l0 a1 (bt107.2 == 0)) else (camshaftlaw14_RtaGrows.j1 kj3 l0 a1 false))))) = some r := by first | (rw [hji19] at H; exact H) | (simp only [hji19] at H ⊢; exact H)
        have hji19_ : (if a2_1 < a2_0 then a2_1 else a2_0) = ji19 := hji19
        replace H := Option.bind_eq_some_iff.mp H
        obtain ⟨⟨t105, t106⟩, A200, H⟩ := H
        replace H : ((rta_Next.f kj3 l0 a1 (mx a2_0 a2_1)).bind fun bt107 => (if t106 = 0 then (if bt107.2 = 0 then (if t105 > bt107.1 then (camshaftlaw14_RtaGrows.j1 kj3 l0 a1 true) else (if t106 = 4 then (camshaftlaw14_RtaGrows.j1 kj3 l0 a1 (bt107.2 == 0)) else (camshaftlaw14_RtaGrows.j1 kj3 l0 a1 false))) else (if t106 = 4 then (camshaftlaw14_RtaGrows.j1 kj3 l0 a1 (bt107.2 == 0)) else (camshaftlaw14_RtaGrows.j1 kj3 l0 a1 false))) else (if t106 = 4 then (camshaftlaw14_RtaGrows.j1 kj3 l0 a1 (bt107.2 == 0)) else (camshaftlaw14_RtaGrows.j1 kj3 l0 a1 false)))) = some r := H
        have A20 := Aside0.mk A200
        clear A200
        obtain ⟨ji21, hji21⟩ : ∃ j_ : Int, (mx a2_0 a2_1) = j_ := ⟨_, rfl⟩
        replace H : ((rta_Next.f kj3 l0 a1 (ji21)).bind fun bt107 => (if t106 = 0 then (if bt107.2 = 0 then (if t105 > bt107.1 then (camshaftlaw14_RtaGrows.j1 kj3 l0 a1 true) else (if t106 = 4 then (camshaftlaw14_RtaGrows.j1 kj3 l0 a1 (bt107.2 == 0)) else (camshaftlaw14_RtaGrows.j1 kj3 l0 a1 false))) else (if t106 = 4 then (camshaftlaw14_RtaGrows.j1 kj3 l0 a1 (bt107.2 == 0)) else (camshaftlaw14_RtaGrows.j1 kj3 l0 a1 false))) else (if t106 = 4 then (camshaftlaw14_RtaGrows.j1 kj3 l0 a1 (bt107.2 == 0)) else (camshaftlaw14_RtaGrows.j1 kj3 l0 a1 false)))) = some r := by first | (rw [hji21] at H; exact H) | (simp only [hji21] at H ⊢; exact H)
        (try rw [hji21] at A20)
        have hji21_ : (if a2_0 < a2_1 then a2_1 else a2_0) = ji21 := hji21
        replace H := Option.bind_eq_some_iff.mp H
        obtain ⟨⟨t107, t108⟩, A220, H⟩ := H
        replace H : (if t106 = 0 then (if t108 = 0 then (if t105 > t107 then (camshaftlaw14_RtaGrows.j1 kj3 l0 a1 true) else (if t106 = 4 then (camshaftlaw14_RtaGrows.j1 kj3 l0 a1 (t108 == 0)) else (camshaftlaw14_RtaGrows.j1 kj3 l0 a1 false))) else (if t106 = 4 then (camshaftlaw14_RtaGrows.j1 kj3 l0 a1 (t108 == 0)) else (camshaftlaw14_RtaGrows.j1 kj3 l0 a1 false))) else (if t106 = 4 then (camshaftlaw14_RtaGrows.j1 kj3 l0 a1 (t108 == 0)) else (camshaftlaw14_RtaGrows.j1 kj3 l0 a1 false))) = some r := H
        have A22 := Aside0.mk A220
        clear A220
        have HC23 := Aside0.mk H
        clear H
        have hcz24_0 : wc.cell? ⟨gb101, 0, none⟩ = some (.int .i64 a2_0) := (blk_cell BK101.out 0).trans rfl
        have hcz24_1 : wc.cell? ⟨gb101, 1, none⟩ = some (.int .i64 a2_1) := (blk_cell BK101.out 1).trans rfl
        have hfz24_0 := blk_frozen BK101.out 0
        have hfz24_1 := blk_frozen BK101.out 1
        go_upto_region 5 with (first | ((with_reducible refine gate_callee (f := 12) rfl ?_); refine goesL_ (some 52) rfl rfl Try.func12 (by kernel_rfl) rfl #[.slice A0 l0.length c0, .int .i64 a1, .int .i64 ji19] rfl (by (try simp only [List.map_toArray, List.map_cons, List.map_nil]); first | done | (simp only [hji19]; rfl) | rfl | (simp only [List.length_drop, List.length_take]; rfl)) ?_; (with_reducible refine (rta_Next.calls kj3 _ _ l0 a1 ji19 t105 t106 _ ?side1 ?side2 A20.out).mono ?_); (case side1 => repeat (first | exact (Kd.C_below HR0.out HB.out) | (with_reducible refine Kd.C_alloc ?_ _) | (with_reducible refine Kd.C_drewN ?_ _) | (with_reducible refine Kd.C_drew ?_))); (case side2 => exact HC0.out); rintro e w25 ⟨rfl, hb⟩; refine ⟨_, rfl, ?_⟩; have n0_ := Aside0.mk (blk_below (g := gb101) (o := .cells #[.int .i64 a2_0, .int .i64 a2_1] 43 (0, 0)) (by (with_reducible repeat (first | refine blk_drewN ?_ _ | refine blk_drew ?_ | refine blk_alloc ?_ _)); exact BK101.out) hb); have n1_ := Aside0.mk (below_step (by repeat (first | (with_reducible first | exact HB.out | apply below_alloc | apply pw_below_drewN | apply below_drew1 | refine below_set ?_ GE101.out) | exact HB.out)) hb); clear BK101; clear HB; have BK101 := n0_; have HB := n1_; clear n0_ n1_; (try clear hb); (try clear hb2); (try clear hk); (try clear hi); have hcz26_0 : w25.cell? ⟨gb101, 0, none⟩ = some (.int .i64 a2_0) := (blk_cell BK101.out 0).trans rfl; have hcz26_1 : w25.cell? ⟨gb101, 1, none⟩ = some (.int .i64 a2_1) := (blk_cell BK101.out 1).trans rfl; have hfz26_0 := blk_frozen BK101.out 0; have hfz26_1 := blk_frozen BK101.out 1) | ((with_reducible refine gate_callee (f := 12) rfl ?_); refine goesL_ (some 63) rfl rfl Try.func12 (by kernel_rfl) rfl #[.slice A0 l0.length c0, .int .i64 a1, .int .i64 ji21] rfl (by (try simp only [List.map_toArray, List.map_cons, List.map_nil]); first | done | (simp only [hji21]; rfl) | rfl | (simp only [List.length_drop, List.length_take]; rfl)) ?_; (with_reducible refine (rta_Next.calls kj3 _ _ l0 a1 ji21 t107 t108 _ ?side1 ?side2 A22.out).mono ?_); (case side1 => repeat (first | exact (Kd.C_below HR0.out HB.out) | (with_reducible refine Kd.C_alloc ?_ _) | (with_reducible refine Kd.C_drewN ?_ _) | (with_reducible refine Kd.C_drew ?_))); (case side2 => exact HC0.out); rintro e w27 ⟨rfl, hb⟩; refine ⟨_, rfl, ?_⟩; have n0_ := Aside0.mk (blk_below (g := gb101) (o := .cells #[.int .i64 a2_0, .int .i64 a2_1] 43 (0, 0)) (by (with_reducible repeat (first | refine blk_drewN ?_ _ | refine blk_drew ?_ | refine blk_alloc ?_ _)); exact BK101.out) hb); have n1_ := Aside0.mk (below_step (by repeat (first | (with_reducible first | exact HB.out | apply below_alloc | apply pw_below_drewN | apply below_drew1 | refine below_set ?_ GE101.out) | exact HB.out)) hb); clear BK101; clear HB; have BK101 := n0_; have HB := n1_; clear n0_ n1_; (try clear hb); (try clear hb2); (try clear hk); (try clear hi)))
        (try simp only [Act.put, List.setIfInBounds_toArray, List.set_cons_zero, List.set_cons_succ])
        go_cut [84] (fun v84 wc => ∃ (kq : Nat) (x84_22 : Bool), v84 = .bool x84_22 ∧ Aside0 (camshaftlaw14_RtaGrows.j1 kq l0 a1 x84_22 = some r) ∧ Aside0 (kq ≤ kj3) ∧ Aside0 (wc.heap[gb101]? = some (.cells #[.int .i64 a2_0, .int .i64 a2_1] 43 (0, 0))) ∧ Aside0 (Below w.heap.size w wc))
        case first =>
          have H := HC23.out
          clear HC23
          by_cases c28 : t106 = 0
          · rw [if_pos c28] at H
            have c28b0 : (t106 == 0) = true := beq_iff_eq.mpr c28
            have c28b1 : (t106 != 0) = false := bne_eq_false_iff_eq.mpr c28
            clear c28
            (first | rw [c28b0] | (simp only [i64_w, i32_w]; rw [c28b0]) | skip)
            by_cases c29 : t108 = 0
            · rw [if_pos c29] at H
              have c29b0 : (t108 == 0) = true := beq_iff_eq.mpr c29
              have c29b1 : (t108 != 0) = false := bne_eq_false_iff_eq.mpr c29
              clear c29
              by_cases c30 : t105 > t107
              · rw [if_pos c30] at H
                have c30b0 : decide (t107 < t105) = true := decide_eq_true c30
                clear c30
                have H' := Aside0.mk H
                clear H
                go_wp2
                go_meet
                case rel => exact ⟨_, (true), (by first | rfl | (simp; done) | (simp [*]; done)), H', ⟨by have := HJ3.out; first | omega | exact Nat.le_refl _⟩, ⟨by (with_reducible repeat (first | refine blk_drewN ?_ _ | refine blk_drew ?_ | refine blk_alloc ?_ _)); exact BK101.out⟩, ⟨by repeat (first | (with_reducible first | exact HB.out | apply below_alloc | apply pw_below_drewN | apply below_drew1 | refine below_set ?_ GE101.out) | exact HB.out)⟩⟩
              · rw [if_neg c30] at H
                have c30b0 : decide (t107 < t105) = false := decide_eq_false c30
                clear c30
                by_cases c31 : t106 = 4
                · rw [if_pos c31] at H
                  have c31b0 : (t106 == 4) = true := beq_iff_eq.mpr c31
                  have c31b1 : (t106 != 4) = false := bne_eq_false_iff_eq.mpr c31
                  clear c31
                  have H' := Aside0.mk H
                  clear H
                  go_wp2
                  go_meet
                  case rel => exact ⟨_, ((t108 == 0)), (by first | rfl | (simp; done) | (simp [*]; done)), H', ⟨by have := HJ3.out; first | omega | exact Nat.le_refl _⟩, ⟨by (with_reducible repeat (first | refine blk_drewN ?_ _ | refine blk_drew ?_ | refine blk_alloc ?_ _)); exact BK101.out⟩, ⟨by repeat (first | (with_reducible first | exact HB.out | apply below_alloc | apply pw_below_drewN | apply below_drew1 | refine below_set ?_ GE101.out) | exact HB.out)⟩⟩
                · rw [if_neg c31] at H
                  have c31b0 : (t106 == 4) = false := beq_eq_false_iff_ne.mpr c31
                  have c31b1 : (t106 != 4) = true := bne_iff_ne.mpr c31
                  have H' := Aside0.mk H
                  clear H
                  go_wp2
                  go_meet
                  case rel => exact ⟨_, (false), (by first | rfl | (simp; done) | (simp [*]; done)), H', ⟨by have := HJ3.out; first | omega | exact Nat.le_refl _⟩, ⟨by (with_reducible repeat (first | refine blk_drewN ?_ _ | refine blk_drew ?_ | refine blk_alloc ?_ _)); exact BK101.out⟩, ⟨by repeat (first | (with_reducible first | exact HB.out | apply below_alloc | apply pw_below_drewN | apply below_drew1 | refine below_set ?_ GE101.out) | exact HB.out)⟩⟩
            · rw [if_neg c29] at H
              have c29b0 : (t108 == 0) = false := beq_eq_false_iff_ne.mpr c29
              have c29b1 : (t108 != 0) = true := bne_iff_ne.mpr c29
              by_cases c32 : t106 = 4
              · rw [if_pos c32] at H
                have c32b0 : (t106 == 4) = true := beq_iff_eq.mpr c32
                have c32b1 : (t106 != 4) = false := bne_eq_false_iff_eq.mpr c32
                clear c32
                have H' := Aside0.mk H
                clear H
                go_wp2
                go_meet
                case rel => exact ⟨_, ((t108 == 0)), (by first | rfl | (simp; done) | (simp [*]; done)), H', ⟨by have := HJ3.out; first | omega | exact Nat.le_refl _⟩, ⟨by (with_reducible repeat (first | refine blk_drewN ?_ _ | refine blk_drew ?_ | refine blk_alloc ?_ _)); exact BK101.out⟩, ⟨by repeat (first | (with_reducible first | exact HB.out | apply below_alloc | apply pw_below_drewN | apply below_drew1 | refine below_set ?_ GE101.out) | exact HB.out)⟩⟩
              · rw [if_neg c32] at H
                have c32b0 : (t106 == 4) = false := beq_eq_false_iff_ne.mpr c32
                have c32b1 : (t106 != 4) = true := bne_iff_ne.mpr c32
                have H' := Aside0.mk H
                clear H
                go_wp2
                go_meet
                case rel => exact ⟨_, (false), (by first | rfl | (simp; done) | (simp [*]; done)), H', ⟨by have := HJ3.out; first | omega | exact Nat.le_refl _⟩, ⟨by (with_reducible repeat (first | refine blk_drewN ?_ _ | refine blk_drew ?_ | refine blk_alloc ?_ _)); exact BK101.out⟩, ⟨by repeat (first | (with_reducible first | exact HB.out | apply below_alloc | apply pw_below_drewN | apply below_drew1 | refine below_set ?_ GE101.out) | exact HB.out)⟩⟩
          · rw [if_neg c28] at H
            have c28b0 : (t106 == 0) = false := beq_eq_false_iff_ne.mpr c28
            have c28b1 : (t106 != 0) = true := bne_iff_ne.mpr c28
            (first | rw [c28b0] | (simp only [i64_w, i32_w]; rw [c28b0]) | skip)
            by_cases c33 : t106 = 4
            · rw [if_pos c33] at H
              have c33b0 : (t106 == 4) = true := beq_iff_eq.mpr c33
              have c33b1 : (t106 != 4) = false := bne_eq_false_iff_eq.mpr c33
              clear c33
              have H' := Aside0.mk H
              clear H
              go_wp2
              go_meet
              case rel => exact ⟨_, ((t108 == 0)), (by first | rfl | (simp; done) | (simp [*]; done)), H', ⟨by have := HJ3.out; first | omega | exact Nat.le_refl _⟩, ⟨by (with_reducible repeat (first | refine blk_drewN ?_ _ | refine blk_drew ?_ | refine blk_alloc ?_ _)); exact BK101.out⟩, ⟨by repeat (first | (with_reducible first | exact HB.out | apply below_alloc | apply pw_below_drewN | apply below_drew1 | refine below_set ?_ GE101.out) | exact HB.out)⟩⟩
            · rw [if_neg c33] at H
              have c33b0 : (t106 == 4) = false := beq_eq_false_iff_ne.mpr c33
              have c33b1 : (t106 != 4) = true := bne_iff_ne.mpr c33
              have H' := Aside0.mk H
              clear H
              go_wp2
              go_meet
              case rel => exact ⟨_, (false), (by first | rfl | (simp; done) | (simp [*]; done)), H', ⟨by have := HJ3.out; first | omega | exact Nat.le_refl _⟩, ⟨by (with_reducible repeat (first | refine blk_drewN ?_ _ | refine blk_drew ?_ | refine blk_alloc ?_ _)); exact BK101.out⟩, ⟨by repeat (first | (with_reducible first | exact HB.out | apply below_alloc | apply pw_below_drewN | apply below_drew1 | refine below_set ?_ GE101.out) | exact HB.out)⟩⟩
        case rest =>
          clear HC23
          try clear c1
          try clear c2
          try clear p2
          try clear c3
          try clear c5
          try clear c7
          try clear c9
          try clear c10
          try clear c10b0
          try clear c12
          try clear c12b0
          try clear c16
          try clear c28
          try clear c28b0
          try clear c28b1
          try clear c29
          try clear c29b0
          try clear c29b1
          try clear c30
          try clear c30b0
          try clear c31
          try clear c31b0
          try clear c31b1
          try clear c32
          try clear c32b0
          try clear c32b1
          try clear c33
          try clear c33b0
          try clear c33b1
          try clear hcz24_0
          try clear hcz24_1
          try clear hcz26_0
          try clear hcz26_1
          try clear hfz24_0
          try clear hfz24_1
          try clear hfz26_0
          try clear hfz26_1
          try clear p2
          obtain ⟨kq, x84_22, rfl, HA, HJ22, BK101, HB⟩ := hcut
          cases kq with
          | zero => exact absurd HA.out (by simp [camshaftlaw14_RtaGrows.j1])
          | succ kj22 =>
            have H := HA.out
            clear HA
            simp only [camshaftlaw14_RtaGrows.j1] at H
            by_cases c34 : x84_22 = true
            · subst c34
              have H1 : (some false) = some r := by rw [if_pos rfl] at H; exact H
              clear H
              have H := H1
              clear H1
              obtain rfl := Option.some.inj H
              cases hr
            · replace c34 := Bool.eq_false_iff.mpr c34
              subst c34
              have H1 : ((rta_Response.f kj22 l0 a1).bind fun bt109 => ((some (([] : List (S41)) : List (S41))).bind fun y111 => (if 0 ≤ (wrap64 ((l0.length : Int) - 1)) then (if (wrap64 ((l0.length : Int) - 1)) ≤ (l0.length : Int) then ((some (l0.take ((wrap64 ((l0.length : Int) - 1)) : Int).toNat : List (S41))).bind fun y114 => (if y111.length + y114.length < 2932031007402 then ((some (y111 ++ y114 : List (S41))).bind fun y118 => (if a1 < (y118.length : Int) then ((rta_Response.f kj22 y118 a1).bind fun bt121 => (if bt109.2 = 0 then (if bt121.2 = 0 then (if bt121.1 > bt109.1 then (some false) else (camshaftlaw14_RtaGrows.j2 kj22 l0 a1 bt109.1 bt109.2)) else (some false)) else (camshaftlaw14_RtaGrows.j2 kj22 l0 a1 bt109.1 bt109.2))) else (camshaftlaw14_RtaGrows.j2 kj22 l0 a1 bt109.1 bt109.2))) else (none))) else (none)) else (none)))) = some r := by rw [if_neg (show ¬ (false = true) by decide)] at H; exact H
              clear H
              have H := H1
              clear H1
              replace H := Option.bind_eq_some_iff.mp H
              obtain ⟨⟨t109, t110⟩, A350, H⟩ := H
              replace H : ((some (([] : List (S41)) : List (S41))).bind fun y111 => (if 0 ≤ (wrap64 ((l0.length : Int) - 1)) then (if (wrap64 ((l0.length : Int) - 1)) ≤ (l0.length : Int) then ((some (l0.take ((wrap64 ((l0.length : Int) - 1)) : Int).toNat : List (S41))).bind fun y114 => (if y111.length + y114.length < 2932031007402 then ((some (y111 ++ y114 : List (S41))).bind fun y118 => (if a1 < (y118.length : Int) then ((rta_Response.f kj22 y118 a1).bind fun bt121 => (if t110 = 0 then (if bt121.2 = 0 then (if bt121.1 > t109 then (some false) else (camshaftlaw14_RtaGrows.j2 kj22 l0 a1 t109 t110)) else (some false)) else (camshaftlaw14_RtaGrows.j2 kj22 l0 a1 t109 t110))) else (camshaftlaw14_RtaGrows.j2 kj22 l0 a1 t109 t110))) else (none))) else (none)) else (none))) = some r := H
              have A35 := Aside0.mk A350
              clear A350
              obtain ⟨y111, hy111⟩ : ∃ y_ : List (S41), y_ = (([] : List (S41))) := ⟨_, rfl⟩
              replace H : (if 0 ≤ (wrap64 ((l0.length : Int) - 1)) then (if (wrap64 ((l0.length : Int) - 1)) ≤ (l0.length : Int) then ((some (l0.take ((wrap64 ((l0.length : Int) - 1)) : Int).toNat : List (S41))).bind fun y114 => (if y111.length + y114.length < 2932031007402 then ((some (y111 ++ y114 : List (S41))).bind fun y118 => (if a1 < (y118.length : Int) then ((rta_Response.f kj22 y118 a1).bind fun bt121 => (if t110 = 0 then (if bt121.2 = 0 then (if bt121.1 > t109 then (some false) else (camshaftlaw14_RtaGrows.j2 kj22 l0 a1 t109 t110)) else (some false)) else (camshaftlaw14_RtaGrows.j2 kj22 l0 a1 t109 t110))) else (camshaftlaw14_RtaGrows.j2 kj22 l0 a1 t109 t110))) else (none))) else (none)) else (none)) = some r := by first | (rw [hy111]; with_reducible exact H) | (have H2_ := (Option.bind_some _ _).symm.trans H; rw [hy111]; with_reducible exact H2_) | (have H2_ := (Option.bind_some _ _).symm.trans H; with_reducible exact H2_) | with_reducible exact H | (rw [hy111]; exact H) | exact H
              have Ny111 := Aside0.mk hy111
              clear hy111
              obtain ⟨ji36, hji36⟩ : ∃ j_ : Int, (wrap64 ((l0.length : Int) - 1)) = j_ := ⟨_, rfl⟩
              replace H : (if 0 ≤ (ji36) then (if (ji36) ≤ (l0.length : Int) then ((some (l0.take ((ji36) : Int).toNat : List (S41))).bind fun y114 => (if y111.length + y114.length < 2932031007402 then ((some (y111 ++ y114 : List (S41))).bind fun y118 => (if a1 < (y118.length : Int) then ((rta_Response.f kj22 y118 a1).bind fun bt121 => (if t110 = 0 then (if bt121.2 = 0 then (if bt121.1 > t109 then (some false) else (camshaftlaw14_RtaGrows.j2 kj22 l0 a1 t109 t110)) else (some false)) else (camshaftlaw14_RtaGrows.j2 kj22 l0 a1 t109 t110))) else (camshaftlaw14_RtaGrows.j2 kj22 l0 a1 t109 t110))) else (none))) else (none)) else (none)) = some r := by first | (rw [hji36] at H; exact H) | (simp only [hji36] at H ⊢; exact H)
              (try rw [hji36] at A35)
              have hji36w : (IntKind.i64.wrap ((l0.length : Int) - 1)) = ji36 := (i64_w _).trans hji36
              by_cases c37 : 0 ≤ (ji36)
              · rw [if_pos c37] at H
                have c37b0 := eq_true c37
                have c37b1 : decide (0 ≤ (ji36)) = true := decide_eq_true c37
                clear c37
                by_cases c38 : (ji36) ≤ (l0.length : Int)
                · rw [if_pos c38] at H
                  have c38b0 := eq_true c38
                  have c38b1 : decide ((ji36) ≤ (l0.length : Int)) = true := decide_eq_true c38
                  clear c38
                  obtain ⟨y114, hy114⟩ : ∃ y_ : List (S41), y_ = (l0.take ((ji36) : Int).toNat) := ⟨_, rfl⟩
                  replace H : (if y111.length + y114.length < 2932031007402 then ((some (y111 ++ y114 : List (S41))).bind fun y118 => (if a1 < (y118.length : Int) then ((rta_Response.f kj22 y118 a1).bind fun bt121 => (if t110 = 0 then (if bt121.2 = 0 then (if bt121.1 > t109 then (some false) else (camshaftlaw14_RtaGrows.j2 kj22 l0 a1 t109 t110)) else (some false)) else (camshaftlaw14_RtaGrows.j2 kj22 l0 a1 t109 t110))) else (camshaftlaw14_RtaGrows.j2 kj22 l0 a1 t109 t110))) else (none)) = some r := by first | (rw [hy114]; with_reducible exact H) | (have H2_ := (Option.bind_some _ _).symm.trans H; rw [hy114]; with_reducible exact H2_) | (have H2_ := (Option.bind_some _ _).symm.trans H; with_reducible exact H2_) | with_reducible exact H | (rw [hy114]; exact H) | exact H
                  have Ny114 := Aside0.mk hy114
                  clear hy114
                  by_cases c39 : y111.length + y114.length < 2932031007402
                  · rw [if_pos c39] at H
                    have LMc39 := Aside0.mk c39
                    clear c39
                    obtain ⟨y118, hy118⟩ : ∃ y_ : List (S41), y_ = (y111 ++ y114) := ⟨_, rfl⟩
                    replace H : (if a1 < (y118.length : Int) then ((rta_Response.f kj22 y118 a1).bind fun bt121 => (if t110 = 0 then (if bt121.2 = 0 then (if bt121.1 > t109 then (some false) else (camshaftlaw14_RtaGrows.j2 kj22 l0 a1 t109 t110)) else (some false)) else (camshaftlaw14_RtaGrows.j2 kj22 l0 a1 t109 t110))) else (camshaftlaw14_RtaGrows.j2 kj22 l0 a1 t109 t110)) = some r := by first | (rw [hy118]; with_reducible exact H) | (have H2_ := (Option.bind_some _ _).symm.trans H; rw [hy118]; with_reducible exact H2_) | (have H2_ := (Option.bind_some _ _).symm.trans H; with_reducible exact H2_) | with_reducible exact H | (rw [hy118]; exact H) | exact H
                    have Ny118 := Aside0.mk hy118
                    clear hy118
                    have HC40 := Aside0.mk H
                    clear H
                    go_upto_if 101 with (first | ((with_reducible refine gate_callee (f := 14) rfl ?_); refine goesL_ (some 88) rfl rfl Try.func14 (by kernel_rfl) rfl #[.slice A0 l0.length c0, .int .i64 a1] rfl (by (try simp only [List.map_toArray, List.map_cons, List.map_nil]); first | done | rfl | (simp only [List.length_drop, List.length_take]; rfl)) ?_; (with_reducible refine (rta_Response.calls kj22 _ _ l0 a1 t109 t110 _ ?side1 ?side2 A35.out).mono ?_); (case side1 => repeat (first | exact (Kd.C_below HR0.out HB.out) | (with_reducible refine Kd.C_alloc ?_ _) | (with_reducible refine Kd.C_drewN ?_ _) | (with_reducible refine Kd.C_drew ?_))); (case side2 => exact HC0.out); rintro e w41 ⟨rfl, hb⟩; refine ⟨_, rfl, ?_⟩; have n0_ := Aside0.mk (blk_below (g := gb101) (o := .cells #[.int .i64 a2_0, .int .i64 a2_1] 43 (0, 0)) (by (with_reducible repeat (first | refine blk_drewN ?_ _ | refine blk_drew ?_ | refine blk_alloc ?_ _)); exact BK101.out) hb); have n1_ := Aside0.mk (below_step (by repeat (first | (with_reducible first | exact HB.out | apply below_alloc | apply pw_below_drewN | apply below_drew1 | refine below_set ?_ GE101.out) | exact HB.out)) hb); clear BK101; clear HB; have BK101 := n0_; have HB := n1_; clear n0_ n1_; (try clear hb); (try clear hb2); (try clear hk); (try clear hi)) | ((with_reducible refine gate_dst (N := 91) rfl ?_); (try (refine gate_guard (by rfl) ?_; dsimp only)); refine Kd.R_lit k41 _ 41 ?hg (N := 91) ?hd (xs := ([] : List (S41))) (inner := []) (ok := fun _ => True) (okp := fun _ => True) ?hr ?hp (fun _ hk => hk) trivial (Below.refl _ _) (Nat.le_refl _) (by simp) ?_; (case hd => rfl); (case hg => rfl); (case hr => first | (go_simp; done) | (go_simp; rfl)); (case hp => exact (Reps.none _ _)); intro v112 w42 ho43 hb hg_ hnew_; clear hg_ hnew_; (first | rw [← Ny111.out] at ho43 | (simp only [Int.reduceToNat] at ho43; rw [← Ny111.out] at ho43)); have n0_ := Aside0.mk (Kd.R_lower ho43 (below_size (by repeat (first | (with_reducible first | exact HB.out | apply below_alloc | apply pw_below_drewN | apply below_drew1 | refine below_set ?_ GE101.out) | exact HB.out)))); have n1_ := Aside0.mk (blk_below (g := gb101) (o := .cells #[.int .i64 a2_0, .int .i64 a2_1] 43 (0, 0)) (by (with_reducible repeat (first | refine blk_drewN ?_ _ | refine blk_drew ?_ | refine blk_alloc ?_ _)); exact BK101.out) hb); have n2_ := Aside0.mk (below_step (by repeat (first | (with_reducible first | exact HB.out | apply below_alloc | apply pw_below_drewN | apply below_drew1 | refine below_set ?_ GE101.out) | exact HB.out)) hb); clear BK101; clear HB; have HO113 := n0_; have BK101 := n1_; have HB := n2_; clear n0_ n1_ n2_; clear hb ho43; have q44 : ((ji36) : Int) ≤ ((l0.length : Int) : Int) := of_decide_eq_true (by first | (with_reducible assumption) | assumption); obtain ⟨i044, hi044, _, hsz44, _⟩ := info_parts info41; have hroom44 : l0.length ≤ c0 := HC0.out; have hC44 : Kd.C k41 _ A0 l0.length l0 := HR0.out; have hcut44 := cut_to (P := Try.prog) 22 41 .i64 Try.underlying22 hi044 A0 l0.length c0 (ji36) (of_decide_eq_true (by first | (with_reducible assumption) | assumption)) q44 hroom44; have hr44 := Kd.C_take (m := ((ji36) : Int).toNat) hC44 (by omega); have hy44 : y114.length = ((ji36) : Int).toNat := (by rw [Ny114.out, List.length_take]; omega); rw [← Ny114.out] at hr44; rw [← hy44] at hcut44; have HR117 := Aside0.mk hr44; have HC117 := Aside0.mk (show y114.length ≤ c0 from by omega); clear hr44 hC44 hroom44 hi044 hsz44; have KY44 := Aside0.mk hy44; clear hy44; replace q44 := eq_true q44) | ((with_reducible refine gate_builtin (b := .append) (xs := #[.tmp 91, .tmp 96]) rfl ?_); (try (refine gate_guard (by rfl) ?_; dsimp only)); at_builtin; refine Kd.R_append_rows k41 (w0 := w) w.heap.size rfl (.tmp 91) (.tmp 96) 22 41 (.agg #[(.int .i64 0), (.int .i64 0), (.int .i64 0), (.int .i64 0), (.int .i64 0), (.int .i64 0)]) 48 rfl Try.underlying22 info41 rfl (by decide) (by omega) v112 y111 y114 _ _ _ (fun _ => True) (fun _ => False) rfl rfl ?aO ?aR (fun _ _ h => h) (fun _ h => h.elim) ?aF ?aB ?aS ?aL ?_; (case aR => repeat (first | exact (Kd.C_below HR117.out HB.out) | (with_reducible refine Kd.C_alloc ?_ _) | (with_reducible refine Kd.C_drewN ?_ _) | (with_reducible refine Kd.C_drew ?_))); (case aB => exact (by repeat (first | (with_reducible first | exact HB.out | apply below_alloc | apply pw_below_drewN | apply below_drew1 | refine below_set ?_ GE101.out) | exact HB.out))); (case aF => exact (fun _ _ => trivial)); (case aO => exact (by (with_reducible repeat (first | apply Kd.R_alloc | apply Kd.R_drewN | apply Kd.R_drew)); exact HO113.out)); (case aS => exact (below_size (by repeat (first | (with_reducible first | exact HB.out | apply below_alloc | apply pw_below_drewN | apply below_drew1 | refine below_set ?_ GE101.out) | exact HB.out)))); (case aL => have := LMc39.out; omega); intro v119 w45 ho hb hg hat; rw [← Ny118.out] at ho; have n0_ := Aside0.mk (blk_grown (g := gb101) (o := .cells #[.int .i64 a2_0, .int .i64 a2_1] 43 (0, 0)) (by (with_reducible repeat (first | refine blk_drewN ?_ _ | refine blk_drew ?_ | refine blk_alloc ?_ _)); exact BK101.out) hg (Kd.R_ne HO113.out BK101.out (by decide))); have n1_ := Aside0.mk (hb); have n2_ := Aside0.mk (ho); clear BK101; clear HB; clear HO113; have BK101 := n0_; have HB := n1_; have HO120 := n2_; clear n0_ n1_ n2_; clear ho hb hg hat; obtain ⟨Ao46, co46, eo46⟩ := Kd.R_slice HO120.out; subst eo46))
                    (try simp only [Act.put, List.setIfInBounds_toArray, List.set_cons_zero, List.set_cons_succ])
                    go_cut [] (fun wc => ∃ (kq : Nat), Aside0 (camshaftlaw14_RtaGrows.j2 kq l0 a1 t109 t110 = some r) ∧ Aside0 (kq ≤ kj22) ∧ Aside0 (wc.heap[gb101]? = some (.cells #[.int .i64 a2_0, .int .i64 a2_1] 43 (0, 0))) ∧ Aside0 (Below w.heap.size w wc))
                    case first =>
                      have H := HC40.out
                      clear HC40
                      by_cases c47 : a1 < (y118.length : Int)
                      · rw [if_pos c47] at H
                        have c47b0 : decide (a1 < (y118.length : Int)) = true := decide_eq_true c47
                        clear c47
                        (first | rw [c47b0] | (simp only [i64_w, i32_w]; rw [c47b0]) | skip)
                        replace H := Option.bind_eq_some_iff.mp H
                        obtain ⟨⟨t121, t122⟩, A480, H⟩ := H
                        replace H : (if t110 = 0 then (if t122 = 0 then (if t121 > t109 then (some false) else (camshaftlaw14_RtaGrows.j2 kj22 l0 a1 t109 t110)) else (some false)) else (camshaftlaw14_RtaGrows.j2 kj22 l0 a1 t109 t110)) = some r := H
                        have A48 := Aside0.mk A480
                        clear A480
                        by_cases c49 : t110 = 0
                        · rw [if_pos c49] at H
                          have c49b0 : (t110 == 0) = true := beq_iff_eq.mpr c49
                          have c49b1 : (t110 != 0) = false := bne_eq_false_iff_eq.mpr c49
                          clear c49
                          by_cases c50 : t122 = 0
                          · rw [if_pos c50] at H
                            have c50b0 : (t122 == 0) = true := beq_iff_eq.mpr c50
                            have c50b1 : (t122 != 0) = false := bne_eq_false_iff_eq.mpr c50
                            clear c50
                            by_cases c51 : t121 > t109
                            · rw [if_pos c51] at H
                              have c51b0 : decide (t109 < t121) = true := decide_eq_true c51
                              clear c51
                              obtain rfl := Option.some.inj H
                              cases hr
                            · rw [if_neg c51] at H
                              have c51b0 : decide (t109 < t121) = false := decide_eq_false c51
                              clear c51
                              have H' := Aside0.mk H
                              clear H
                              go_wp2_with (first | ((with_reducible refine gate_callee (f := 14) rfl ?_); refine goesL_ (some 105) rfl rfl Try.func14 (by kernel_rfl) rfl #[.slice Ao46 y118.length co46, .int .i64 a1] rfl (by (try simp only [List.map_toArray, List.map_cons, List.map_nil]); first | done | rfl | (simp only [List.length_drop, List.length_take]; rfl)) ?_; (with_reducible refine (rta_Response.calls kj22 _ _ y118 a1 t121 t122 _ ?side1 ?side2 A48.out).mono ?_); (case side1 => repeat (first | exact (Kd.R_reads' HO120.out).2.2 | (with_reducible refine Kd.C_alloc ?_ _) | (with_reducible refine Kd.C_drewN ?_ _) | (with_reducible refine Kd.C_drew ?_))); (case side2 => exact (Kd.R_reads' HO120.out).2.1); rintro e w53 ⟨rfl, hb⟩; refine ⟨_, rfl, ?_⟩; have n0_ := Aside0.mk (Kd.R_below (by (with_reducible repeat (first | apply Kd.R_alloc | apply Kd.R_drewN | apply Kd.R_drew)); exact HO120.out) hb); have n1_ := Aside0.mk (blk_below (g := gb101) (o := .cells #[.int .i64 a2_0, .int .i64 a2_1] 43 (0, 0)) (by (with_reducible repeat (first | refine blk_drewN ?_ _ | refine blk_drew ?_ | refine blk_alloc ?_ _)); exact BK101.out) hb); have n2_ := Aside0.mk (below_step (by repeat (first | (with_reducible first | exact HB.out | apply below_alloc | apply pw_below_drewN | apply below_drew1 | refine below_set ?_ GE101.out) | exact HB.out)) hb); clear HO120; clear BK101; clear HB; have HO120 := n0_; have BK101 := n1_; have HB := n2_; clear n0_ n1_ n2_; (try clear hb); (try clear hb2); (try clear hk); (try clear hi)))
                              go_meet
                              case rel => exact ⟨_, H', ⟨by have := HJ3.out; have := HJ22.out; first | omega | exact Nat.le_refl _⟩, ⟨by (with_reducible repeat (first | refine blk_drewN ?_ _ | refine blk_drew ?_ | refine blk_alloc ?_ _)); exact BK101.out⟩, ⟨by repeat (first | (with_reducible first | exact HB.out | apply below_alloc | apply pw_below_drewN | apply below_drew1 | refine below_set ?_ GE101.out) | exact HB.out)⟩⟩
                          · rw [if_neg c50] at H
                            have c50b0 : (t122 == 0) = false := beq_eq_false_iff_ne.mpr c50
                            have c50b1 : (t122 != 0) = true := bne_iff_ne.mpr c50
                            obtain rfl := Option.some.inj H
                            cases hr
                        · rw [if_neg c49] at H
                          have c49b0 : (t110 == 0) = false := beq_eq_false_iff_ne.mpr c49
                          have c49b1 : (t110 != 0) = true := bne_iff_ne.mpr c49
                          have H' := Aside0.mk H
                          clear H
                          go_wp2_with (first | ((with_reducible refine gate_callee (f := 14) rfl ?_); refine goesL_ (some 105) rfl rfl Try.func14 (by kernel_rfl) rfl #[.slice Ao46 y118.length co46, .int .i64 a1] rfl (by (try simp only [List.map_toArray, List.map_cons, List.map_nil]); first | done | rfl | (simp only [List.length_drop, List.length_take]; rfl)) ?_; (with_reducible refine (rta_Response.calls kj22 _ _ y118 a1 t121 t122 _ ?side1 ?side2 A48.out).mono ?_); (case side1 => repeat (first | exact (Kd.R_reads' HO120.out).2.2 | (with_reducible refine Kd.C_alloc ?_ _) | (with_reducible refine Kd.C_drewN ?_ _) | (with_reducible refine Kd.C_drew ?_))); (case side2 => exact (Kd.R_reads' HO120.out).2.1); rintro e w55 ⟨rfl, hb⟩; refine ⟨_, rfl, ?_⟩; have n0_ := Aside0.mk (Kd.R_below (by (with_reducible repeat (first | apply Kd.R_alloc | apply Kd.R_drewN | apply Kd.R_drew)); exact HO120.out) hb); have n1_ := Aside0.mk (blk_below (g := gb101) (o := .cells #[.int .i64 a2_0, .int .i64 a2_1] 43 (0, 0)) (by (with_reducible repeat (first | refine blk_drewN ?_ _ | refine blk_drew ?_ | refine blk_alloc ?_ _)); exact BK101.out) hb); have n2_ := Aside0.mk (below_step (by repeat (first | (with_reducible first | exact HB.out | apply below_alloc | apply pw_below_drewN | apply below_drew1 | refine below_set ?_ GE101.out) | exact HB.out)) hb); clear HO120; clear BK101; clear HB; have HO120 := n0_; have BK101 := n1_; have HB := n2_; clear n0_ n1_ n2_; (try clear hb); (try clear hb2); (try clear hk); (try clear hi)))
                          go_meet
                          case rel => exact ⟨_, H', ⟨by have := HJ3.out; have := HJ22.out; first | omega | exact Nat.le_refl _⟩, ⟨by (with_reducible repeat (first | refine blk_drewN ?_ _ | refine blk_drew ?_ | refine blk_alloc ?_ _)); exact BK101.out⟩, ⟨by repeat (first | (with_reducible first | exact HB.out | apply below_alloc | apply pw_below_drewN | apply below_drew1 | refine below_set ?_ GE101.out) | exact HB.out)⟩⟩
                      · rw [if_neg c47] at H
                        have c47b0 : decide (a1 < (y118.length : Int)) = false := decide_eq_false c47
                        clear c47
                        (first | rw [c47b0] | (simp only [i64_w, i32_w]; rw [c47b0]) | skip)
                        have H' := Aside0.mk H
                        clear H
                        go_wp2
                        go_meet
                        case rel => exact ⟨_, H', ⟨by have := HJ3.out; have := HJ22.out; first | omega | exact Nat.le_refl _⟩, ⟨by (with_reducible repeat (first | refine blk_drewN ?_ _ | refine blk_drew ?_ | refine blk_alloc ?_ _)); exact BK101.out⟩, ⟨by repeat (first | (with_reducible first | exact HB.out | apply below_alloc | apply pw_below_drewN | apply below_drew1 | refine below_set ?_ GE101.out) | exact HB.out)⟩⟩
                    case rest =>
                      clear HC40
                      try clear c1
                      try clear c2
                      try clear p2
                      try clear c3
                      try clear c4
                      try clear q4
                      try clear c5
                      try clear p6
                      try clear c7
                      try clear c9
                      try clear c10
                      try clear c10b0
                      try clear c12
                      try clear c12b0
                      try clear c14
                      try clear c16
                      try clear c28
                      try clear c28b0
                      try clear c28b1
                      try clear c29
                      try clear c29b0
                      try clear c29b1
                      try clear c30
                      try clear c30b0
                      try clear c31
                      try clear c31b0
                      try clear c31b1
                      try clear c32
                      try clear c32b0
                      try clear c32b1
                      try clear c33
                      try clear c33b0
                      try clear c33b1
                      try clear c34
                      try clear c37
                      try clear c37b0
                      try clear c37b1
                      try clear c38
                      try clear c38b0
                      try clear c38b1
                      try clear c39
                      try clear q44
                      try clear c47
                      try clear c47b0
                      try clear c49
                      try clear c49b0
                      try clear c49b1
                      try clear c50
                      try clear c50b0
                      try clear c50b1
                      try clear c51
                      try clear c51b0
                      try clear hcz24_0
                      try clear hcz24_1
                      try clear hcz26_0
                      try clear hcz26_1
                      try clear hfz24_0
                      try clear hfz24_1
                      try clear hfz26_0
                      try clear hfz26_1
                      try clear p2
                      try clear q44
                      obtain ⟨kq, HA, HJ39, BK101, HB⟩ := hcut
                      cases kq with
                      | zero => exact absurd HA.out (by simp [camshaftlaw14_RtaGrows.j2])
                      | succ kj39 =>
                        have H := HA.out
                        clear HA
                        simp only [camshaftlaw14_RtaGrows.j2] at H
                        obtain ⟨y123, hy123⟩ : ∃ y_ : List (S41), y_ = (([] : List (S41))) := ⟨_, rfl⟩
                        replace H : (if y123.length + l0.length < 2932031007402 then (camshaftlaw14_RtaGrows.l0 kj39 a1 t109 t110 (y123 ++ l0) 0) else (none)) = some r := by first | (rw [hy123]; with_reducible exact H) | (have H2_ := (Option.bind_some _ _).symm.trans H; rw [hy123]; with_reducible exact H2_) | (have H2_ := (Option.bind_some _ _).symm.trans H; with_reducible exact H2_) | with_reducible exact H | (rw [hy123]; exact H) | exact H
                        have Ny123 := Aside0.mk hy123
                        clear hy123
                        by_cases c56 : y123.length + l0.length < 2932031007402
                        · rw [if_pos c56] at H
                          have LMc56 := Aside0.mk c56
                          clear c56
                          obtain ⟨y126, hy126⟩ : ∃ y_ : List (S41), y_ = (y123 ++ l0) := ⟨_, rfl⟩
                          replace H : (camshaftlaw14_RtaGrows.l0 kj39 a1 t109 t110 y126 0) = some r := by first | (rw [hy126]; with_reducible exact H) | (have H2_ := (Option.bind_some _ _).symm.trans H; rw [hy126]; with_reducible exact H2_) | (have H2_ := (Option.bind_some _ _).symm.trans H; with_reducible exact H2_) | with_reducible exact H | (rw [hy126]; exact H) | exact H
                          have Ny126 := Aside0.mk hy126
                          clear hy126
                          have H' := Aside0.mk H
                          clear H
                          go_wp2_with (first | ((with_reducible refine gate_dst (N := 119) rfl ?_); (try (refine gate_guard (by rfl) ?_; dsimp only)); refine Kd.R_lit k41 _ 41 ?hg (N := 119) ?hd (xs := ([] : List (S41))) (inner := []) (ok := fun _ => True) (okp := fun _ => True) ?hr ?hp (fun _ hk => hk) trivial (Below.refl _ _) (Nat.le_refl _) (by simp) ?_; (case hd => rfl); (case hg => rfl); (case hr => first | (go_simp; done) | (go_simp; rfl)); (case hp => exact (Reps.none _ _)); intro v124 w57 ho58 hb hg_ hnew_; clear hg_ hnew_; (first | rw [← Ny123.out] at ho58 | (simp only [Int.reduceToNat] at ho58; rw [← Ny123.out] at ho58)); have n0_ := Aside0.mk (Kd.R_lower ho58 (below_size (by repeat (first | (with_reducible first | exact HB.out | apply below_alloc | apply pw_below_drewN | apply below_drew1 | refine below_set ?_ GE101.out) | exact HB.out)))); have n1_ := Aside0.mk (blk_below (g := gb101) (o := .cells #[.int .i64 a2_0, .int .i64 a2_1] 43 (0, 0)) (by (with_reducible repeat (first | refine blk_drewN ?_ _ | refine blk_drew ?_ | refine blk_alloc ?_ _)); exact BK101.out) hb); have n2_ := Aside0.mk (below_step (by repeat (first | (with_reducible first | exact HB.out | apply below_alloc | apply pw_below_drewN | apply below_drew1 | refine below_set ?_ GE101.out) | exact HB.out)) hb); clear BK101; clear HB; have HO125 := n0_; have BK101 := n1_; have HB := n2_; clear n0_ n1_ n2_; clear hb ho58) | ((with_reducible refine gate_builtin (b := .append) (xs := #[.tmp 119, .tmp 120]) rfl ?_); (try (refine gate_guard (by rfl) ?_; dsimp only)); at_builtin; refine Kd.R_append_rows k41 (w0 := w) w.heap.size rfl (.tmp 119) (.tmp 120) 22 41 (.agg #[(.int .i64 0), (.int .i64 0), (.int .i64 0), (.int .i64 0), (.int .i64 0), (.int .i64 0)]) 48 rfl Try.underlying22 info41 rfl (by decide) (by omega) v124 y123 l0 _ _ _ (fun _ => True) (fun _ => False) rfl rfl ?aO ?aR (fun _ _ h => h) (fun _ h => h.elim) ?aF ?aB ?aS ?aL ?_; (case aR => repeat (first | exact (Kd.C_below HR0.out HB.out) | (with_reducible refine Kd.C_alloc ?_ _) | (with_reducible refine Kd.C_drewN ?_ _) | (with_reducible refine Kd.C_drew ?_))); (case aB => exact (by repeat (first | (with_reducible first | exact HB.out | apply below_alloc | apply pw_below_drewN | apply below_drew1 | refine below_set ?_ GE101.out) | exact HB.out))); (case aF => exact (fun _ _ => trivial)); (case aO => exact (by (with_reducible repeat (first | apply Kd.R_alloc | apply Kd.R_drewN | apply Kd.R_drew)); exact HO125.out)); (case aS => exact (below_size (by repeat (first | (with_reducible first | exact HB.out | apply below_alloc | apply pw_below_drewN | apply below_drew1 | refine below_set ?_ GE101.out) | exact HB.out)))); (case aL => have := LMc56.out; omega); intro v127 w59 ho hb hg hat; rw [← Ny126.out] at ho; have n0_ := Aside0.mk (blk_grown (g := gb101) (o := .cells #[.int .i64 a2_0, .int .i64 a2_1] 43 (0, 0)) (by (with_reducible repeat (first | refine blk_drewN ?_ _ | refine blk_drew ?_ | refine blk_alloc ?_ _)); exact BK101.out) hg (Kd.R_ne HO125.out BK101.out (by decide))); have n1_ := Aside0.mk (hb); have n2_ := Aside0.mk (ho); clear BK101; clear HB; clear HO125; have BK101 := n0_; have HB := n1_; have HO128 := n2_; clear n0_ n1_ n2_; clear ho hb hg hat))
                          go_loopg [17] kj39 (fun kq v17 w' => ∃ (x16_4 : List (S41)) (x17_4 : Int), v17 = .int .i64 x17_4 ∧ Aside0 (camshaftlaw14_RtaGrows.l0 kq a1 t109 t110 x16_4 x17_4 = some r) ∧ Aside0 (kq ≤ kj39) ∧ Aside0 (Kd.R k41 41 w' w.heap.size (fun _ => True) v127 x16_4) ∧ Aside0 (w'.heap[gb101]? = some (.cells #[.int .i64 a2_0, .int .i64 a2_1] 43 (0, 0))) ∧ Aside0 (Below w.heap.size w w'))
                          case atStart => exact ⟨(y126), (0), (by first | rfl | (simp; done) | (simp [*]; done)), H', ⟨Nat.le_refl _⟩, ⟨by (with_reducible repeat (first | apply Kd.R_alloc | apply Kd.R_drewN | apply Kd.R_drew)); exact HO128.out⟩, ⟨by (with_reducible repeat (first | refine blk_drewN ?_ _ | refine blk_drew ?_ | refine blk_alloc ?_ _)); exact BK101.out⟩, ⟨by repeat (first | (with_reducible first | exact HB.out | apply below_alloc | apply pw_below_drewN | apply below_drew1 | refine below_set ?_ GE101.out) | exact HB.out)⟩⟩
                          case round =>
                            clear H'
                            try clear c1
                            try clear c2
                            try clear p2
                            try clear c3
                            try clear c4
                            try clear q4
                            try clear c5
                            try clear p6
                            try clear c7
                            try clear c9
                            try clear c10
                            try clear c10b0
                            try clear c12
                            try clear c12b0
                            try clear c14
                            try clear c16
                            try clear c28
                            try clear c28b0
                            try clear c28b1
                            try clear c29
                            try clear c29b0
                            try clear c29b1
                            try clear c30
                            try clear c30b0
                            try clear c31
                            try clear c31b0
                            try clear c31b1
                            try clear c32
                            try clear c32b0
                            try clear c32b1
                            try clear c33
                            try clear c33b0
                            try clear c33b1
                            try clear c34
                            try clear c37
                            try clear c37b0
                            try clear c37b1
                            try clear c38
                            try clear c38b0
                            try clear c38b1
                            try clear c39
                            try clear q44
                            try clear c47
                            try clear c47b0
                            try clear c49
                            try clear c49b0
                            try clear c49b1
                            try clear c50
                            try clear c50b0
                            try clear c50b1
                            try clear c51
                            try clear c51b0
                            try clear c56
                            try clear hcz24_0
                            try clear hcz24_1
                            try clear hcz26_0
                            try clear hcz26_1
                            try clear hfz24_0
                            try clear hfz24_1
                            try clear hfz26_0
                            try clear hfz26_1
                            try clear p2
                            try clear p6
                            try clear q4
                            try clear q44
                            obtain ⟨x16_4, x17_4, rfl, HA, HK4, HO_16, BK101, HB⟩ := hrel
                            cases gk with
                            | zero => exact absurd HA.out (by simp [camshaftlaw14_RtaGrows.l0])
                            | succ k4 =>
                              have H := HA.out
                              clear HA
                              simp only [camshaftlaw14_RtaGrows.l0] at H
                              by_cases c60 : x17_4 < (x16_4.length : Int)
                              · rw [if_pos c60] at H
                                have c60b0 : decide (x17_4 < (x16_4.length : Int)) = true := decide_eq_true c60
                                clear c60
                                by_cases c61 : 0 ≤ x17_4
                                · rw [if_pos c61] at H
                                  have c61b0 : decide (0 ≤ x17_4) = true := decide_eq_true c61
                                  clear c61
                                  by_cases c62 : ((rd_T41 x16_4 x17_4).f0) < 4611686018427387903
                                  · rw [if_pos c62] at H
                                    have c62b0 : decide (((rd_T41 x16_4 x17_4).f0) < 4611686018427387903) = true := decide_eq_true c62
                                    clear c62
                                    obtain ⟨y131, hy131⟩ : ∃ y_ : List (S41), y_ = (x16_4.set (x17_4 : Int).toNat (⟨wrap64 (((rd_T41 x16_4 x17_4).f0) + 1), (rd_T41 x16_4 x17_4).f1, (rd_T41 x16_4 x17_4).f2, (rd_T41 x16_4 x17_4).f3, (rd_T41 x16_4 x17_4).f4, (rd_T41 x16_4 x17_4).f5⟩ : S41)) := ⟨_, rfl⟩
                                    replace H : (camshaftlaw14_RtaGrows.l0 k4 a1 t109 t110 y131 (wrap64 (x17_4 + 1))) = some r := by first | (rw [hy131]; with_reducible exact H) | (have H2_ := (Option.bind_some _ _).symm.trans H; rw [hy131]; with_reducible exact H2_) | (have H2_ := (Option.bind_some _ _).symm.trans H; with_reducible exact H2_) | with_reducible exact H | (rw [hy131]; exact H) | exact H
                                    have Ny131 := Aside0.mk hy131
                                    clear hy131
                                    have H' := Aside0.mk H
                                    clear H
                                    obtain ⟨Ao64, co64, eo64⟩ := Kd.R_slice HO_16.out
                                    subst eo64
                                    have p129 : 0 ≤ (x17_4 : Int) := of_decide_eq_true (by first | (with_reducible assumption) | assumption)
                                    have q129 : x17_4 < (x16_4.length : Int) := of_decide_eq_true (by first | (with_reducible assumption) | assumption)
                                    obtain ⟨ad129, e129, hx129_0, hx129_1, hx129_2, hx129_3, hx129_4, hx129_5⟩ := at_T41 (Kd.R_reads' HO_16.out).2.2 x17_4 p129 q129
                                    cases e129
                                    replace p129 := eq_true p129
                                    replace q129 := eq_true q129
                                    have p130 : 0 ≤ (x17_4 : Int) := of_decide_eq_true (by first | (with_reducible assumption) | assumption)
                                    have q130 : x17_4 < (x16_4.length : Int) := of_decide_eq_true (by first | (with_reducible assumption) | assumption)
                                    obtain ⟨ad130, e130, hx130_0, hx130_1, hx130_2, hx130_3, hx130_4, hx130_5⟩ := at_T41 (Kd.R_reads' HO_16.out).2.2 x17_4 p130 q130
                                    obtain rfl : ad129 = ad130 := (by injection e130)
                                    replace p130 := eq_true p130
                                    replace q130 := eq_true q130
                                    have p63 : 0 ≤ (x17_4 : Int) := of_decide_eq_true (by first | (with_reducible assumption) | assumption)
                                    have q63 : (x17_4 : Int) < ((x16_4.length : Int) : Int) := of_decide_eq_true (by first | (with_reducible assumption) | assumption)
                                    obtain ⟨go63, co63, eo63, gb63, gl63, cl63, HG63⟩ := Kd.R_form HO_16.out (by omega)
                                    (first | cases eo63 | (injection eo63 with ea_ en_ ec_; (first | subst ea_ | (injection ea_ with ea_; subst ea_)); subst ec_; clear en_))
                                    have GB63 := Aside0.mk gb63
                                    have GG63 := Aside0.mk HG63
                                    clear gb63 gl63 HG63
                                    (first | simp only [add_plain] at hx129_0 | skip)
                                    (first | simp only [add_plain] at hx129_1 | skip)
                                    (first | simp only [add_plain] at hx129_2 | skip)
                                    (first | simp only [add_plain] at hx129_3 | skip)
                                    (first | simp only [add_plain] at hx129_4 | skip)
                                    (first | simp only [add_plain] at hx129_5 | skip)
                                    (first | simp only [add_plain] at hx130_0 | skip)
                                    (first | simp only [add_plain] at hx130_1 | skip)
                                    (first | simp only [add_plain] at hx130_2 | skip)
                                    (first | simp only [add_plain] at hx130_3 | skip)
                                    (first | simp only [add_plain] at hx130_4 | skip)
                                    (first | simp only [add_plain] at hx130_5 | skip)
                                    obtain ⟨ce63, hcl63, hM63, hcc63, hfr63⟩ := Kd.R_elem HO_16.out z41 (x17_4 : Int) p63 q63
                                    obtain rfl := k41_openM hM63
                                    have hx63_0 : wr.cell? ⟨go63, (x17_4 : Int).toNat * 6, none⟩ = some (.int .i64 ((rd_T41 x16_4 x17_4).f0)) := hcc63 0 _ rfl
                                    have hx63_1 : wr.cell? ⟨go63, (x17_4 : Int).toNat * 6 + 1, none⟩ = some (.int .i64 ((rd_T41 x16_4 x17_4).f1)) := hcc63 1 _ rfl
                                    have hx63_2 : wr.cell? ⟨go63, (x17_4 : Int).toNat * 6 + 2, none⟩ = some (.int .i64 ((rd_T41 x16_4 x17_4).f2)) := hcc63 2 _ rfl
                                    have hx63_3 : wr.cell? ⟨go63, (x17_4 : Int).toNat * 6 + 3, none⟩ = some (.int .i64 ((rd_T41 x16_4 x17_4).f3)) := hcc63 3 _ rfl
                                    have hx63_4 : wr.cell? ⟨go63, (x17_4 : Int).toNat * 6 + 4, none⟩ = some (.int .i64 ((rd_T41 x16_4 x17_4).f4)) := hcc63 4 _ rfl
                                    have hx63_5 : wr.cell? ⟨go63, (x17_4 : Int).toNat * 6 + 5, none⟩ = some (.int .i64 ((rd_T41 x16_4 x17_4).f5)) := hcc63 5 _ rfl
                                    have hf63_0 : wr.frozen? ⟨go63, (x17_4 : Int).toNat * 6, none⟩ = false := hfr63 0
                                    have hf63_1 : wr.frozen? ⟨go63, (x17_4 : Int).toNat * 6 + 1, none⟩ = false := hfr63 1
                                    have hf63_2 : wr.frozen? ⟨go63, (x17_4 : Int).toNat * 6 + 2, none⟩ = false := hfr63 2
                                    have hf63_3 : wr.frozen? ⟨go63, (x17_4 : Int).toNat * 6 + 3, none⟩ = false := hfr63 3
                                    have hf63_4 : wr.frozen? ⟨go63, (x17_4 : Int).toNat * 6 + 4, none⟩ = false := hfr63 4
                                    have hf63_5 : wr.frozen? ⟨go63, (x17_4 : Int).toNat * 6 + 5, none⟩ = false := hfr63 5
                                    clear hcl63 hcc63 hfr63 hM63
                                    replace p63 := eq_true p63
                                    replace q63 := eq_true q63
                                    have HX65 := Aside0.mk (show Kd.R k41 41 wr w.heap.size (fun _ => True) (.slice (some ⟨go63, 0, none⟩) x16_4.length co64) x16_4 from (by (with_reducible repeat (first | apply Kd.R_alloc | apply Kd.R_drewN | apply Kd.R_drew)); exact HO_16.out))
                                    obtain ⟨ce65, hcl65, hM65, hcc65, hfr65⟩ := Kd.R_elem HX65.out z41 (x17_4 : Int) (of_decide_eq_true (by first | (with_reducible assumption) | assumption)) (by have h_ : (x17_4 : Int) < ((x16_4.length : Int) : Int) := of_decide_eq_true (by first | (with_reducible assumption) | assumption); first | exact h_ | (have e_ := (Kd.R_reads' HO_16.out).1; omega) | simpa using h_)
                                    obtain rfl := k41_openM hM65
                                    have HP65 := Kd.R_seg HX65.out (x17_4 : Int) (of_decide_eq_true (by first | (with_reducible assumption) | assumption)) (by have h_ : (x17_4 : Int) < ((x16_4.length : Int) : Int) := of_decide_eq_true (by first | (with_reducible assumption) | assumption); first | exact h_ | (have e_ := (Kd.R_reads' HO_16.out).1; omega) | simpa using h_) (seg := [.int .i64 (wrap64 (((rd_T41 x16_4 x17_4).f0) + 1))]) (j := 0) hcl65 hcc65 (show 1 ≤ 6 from by decide) (x' := (⟨wrap64 (((rd_T41 x16_4 x17_4).f0) + 1), (rd_T41 x16_4 x17_4).f1, (rd_T41 x16_4 x17_4).f2, (rd_T41 x16_4 x17_4).f3, (rd_T41 x16_4 x17_4).f4, (rd_T41 x16_4 x17_4).f5⟩ : S41)) (k41_mkM _ _ _ (⟨wrap64 (((rd_T41 x16_4 x17_4).f0) + 1), (rd_T41 x16_4 x17_4).f1, (rd_T41 x16_4 x17_4).f2, (rd_T41 x16_4 x17_4).f3, (rd_T41 x16_4 x17_4).f4, (rd_T41 x16_4 x17_4).f5⟩ : S41) ) (fun _ hk => hk)
                                    have hx65_0 := hcc65 0 _ rfl
                                    (try simp only [show (k41).sz = 6 from rfl, Nat.mul_one, Nat.add_zero] at hx65_0)
                                    have hf65_0 := hfr65 0
                                    (try simp only [show (k41).sz = 6 from rfl, Nat.mul_one, Nat.add_zero] at hf65_0)
                                    clear hcl65 hcc65 hfr65 hM65
                                    go_wp2_with (first | ((with_reducible refine gate_store (t := 3) (p := 143) rfl ?_); refine store_event (t := 3) (p := 143) (v := ?vo_w66) (w1 := (wr.setCell ⟨go63, (x17_4 : Int).toNat * 6, none⟩ (.int .i64 (wrap64 (((rd_T41 x16_4 x17_4).f0) + 1))))) ?hg ?ho ?hn ?hr ?_; (case ho => rfl); (case hg => rfl); (case hn => rfl); (case hr => first | (go_simp; done) | (go_simp; rfl)); intro w66 hw; have hg : wr.grownBy w66 (some go63) := (by rw [hw]; exact HP65.2); have hp_ : Kd.R k41 41 w66 w.heap.size (fun _ => True) (.slice (some ⟨go63, 0, none⟩) x16_4.length co64) y131 := (by rw [hw, Ny131.out]; exact HP65.1); clear HP65; have n0_ := Aside0.mk (hp_); have n1_ := Aside0.mk (blk_grown (g := gb101) (o := .cells #[.int .i64 a2_0, .int .i64 a2_1] 43 (0, 0)) (by (with_reducible repeat (first | refine blk_drewN ?_ _ | refine blk_drew ?_ | refine blk_alloc ?_ _)); exact BK101.out) hg (Kd.R_ne HO_16.out BK101.out (by decide))); have n2_ := Aside0.mk ((by rw [hw]; exact below_set (HB.out) GB63.out : Below w.heap.size w w66)); clear HO_16; clear BK101; clear HB; have HO_16 := n0_; have BK101 := n1_; have HB := n2_; clear n0_ n1_ n2_; clear hg hw hp_))
                                    go_roundg k4
                                    case measure => have := HJ3.out; have := HJ22.out; have := HJ39.out; have := HK4.out; omega
                                    case rel => exact ⟨(y131), (wrap64 (x17_4 + 1)), (by first | rfl | (simp; done) | (simp [*]; done)), H', ⟨by have := HJ3.out; have := HJ22.out; have := HJ39.out; have := HK4.out; omega⟩, ⟨by (with_reducible repeat (first | apply Kd.R_alloc | apply Kd.R_drewN | apply Kd.R_drew)); exact HO_16.out⟩, ⟨by (with_reducible repeat (first | refine blk_drewN ?_ _ | refine blk_drew ?_ | refine blk_alloc ?_ _)); exact BK101.out⟩, ⟨by repeat (first | (with_reducible first | exact HB.out | apply below_alloc | apply pw_below_drewN | apply below_drew1 | refine below_set ?_ GE101.out) | exact HB.out)⟩⟩
                                  · rw [if_neg c62] at H
                                    have c62b0 : decide (((rd_T41 x16_4 x17_4).f0) < 4611686018427387903) = false := decide_eq_false c62
                                    clear c62
                                    have H' := Aside0.mk H
                                    clear H
                                    obtain ⟨Ao67, co67, eo67⟩ := Kd.R_slice HO_16.out
                                    subst eo67
                                    have p129 : 0 ≤ (x17_4 : Int) := of_decide_eq_true (by first | (with_reducible assumption) | assumption)
                                    have q129 : x17_4 < (x16_4.length : Int) := of_decide_eq_true (by first | (with_reducible assumption) | assumption)
                                    obtain ⟨ad129, e129, hx129_0, hx129_1, hx129_2, hx129_3, hx129_4, hx129_5⟩ := at_T41 (Kd.R_reads' HO_16.out).2.2 x17_4 p129 q129
                                    cases e129
                                    replace p129 := eq_true p129
                                    replace q129 := eq_true q129
                                    go_wp2
                                    go_roundg k4
                                    case measure => have := HJ3.out; have := HJ22.out; have := HJ39.out; have := HK4.out; omega
                                    case rel => exact ⟨(x16_4), (wrap64 (x17_4 + 1)), (by first | rfl | (simp; done) | (simp [*]; done)), H', ⟨by have := HJ3.out; have := HJ22.out; have := HJ39.out; have := HK4.out; omega⟩, ⟨by (with_reducible repeat (first | apply Kd.R_alloc | apply Kd.R_drewN | apply Kd.R_drew)); exact HO_16.out⟩, ⟨by (with_reducible repeat (first | refine blk_drewN ?_ _ | refine blk_drew ?_ | refine blk_alloc ?_ _)); exact BK101.out⟩, ⟨by repeat (first | (with_reducible first | exact HB.out | apply below_alloc | apply pw_below_drewN | apply below_drew1 | refine below_set ?_ GE101.out) | exact HB.out)⟩⟩
                                · rw [if_neg c61] at H
                                  exact absurd H (by simp)
                              · rw [if_neg c60] at H
                                have c60b0 : decide (x17_4 < (x16_4.length : Int)) = false := decide_eq_false c60
                                clear c60
                                replace H := Option.bind_eq_some_iff.mp H
                                obtain ⟨⟨t132, t133⟩, A680, H⟩ := H
                                replace H : (if t133 = 0 then (if t110 = 0 then (if t132 > t109 then ((camshaftlaw14_known.f k4).bind fun t134 => (some t134)) else (some false)) else (some false)) else ((camshaftlaw14_known.f k4).bind fun t135 => (some t135))) = some r := H
                                have A68 := Aside0.mk A680
                                clear A680
                                by_cases c69 : t133 = 0
                                · rw [if_pos c69] at H
                                  have c69b0 : (t133 == 0) = true := beq_iff_eq.mpr c69
                                  have c69b1 : (t133 != 0) = false := bne_eq_false_iff_eq.mpr c69
                                  clear c69
                                  by_cases c70 : t110 = 0
                                  · rw [if_pos c70] at H
                                    have c70b0 : (t110 == 0) = true := beq_iff_eq.mpr c70
                                    have c70b1 : (t110 != 0) = false := bne_eq_false_iff_eq.mpr c70
                                    clear c70
                                    by_cases c71 : t132 > t109
                                    · rw [if_pos c71] at H
                                      have c71b0 : decide (t109 < t132) = true := decide_eq_true c71
                                      clear c71
                                      replace H := Option.bind_eq_some_iff.mp H
                                      obtain ⟨t134, A720, H⟩ := H
                                      replace H : (some t134) = some r := H
                                      have A72 := Aside0.mk A720
                                      clear A720
                                      obtain rfl := Option.some.inj H
                                      obtain ⟨Ao73, co73, eo73⟩ := Kd.R_slice HO_16.out
                                      subst eo73
                                      go_wp2_with (first | ((with_reducible refine gate_callee (f := 14) rfl ?_); refine goesL_ (some 147) rfl rfl Try.func14 (by kernel_rfl) rfl #[.slice Ao73 x16_4.length co73, .int .i64 a1] rfl (by (try simp only [List.map_toArray, List.map_cons, List.map_nil]); first | done | rfl | (simp only [List.length_drop, List.length_take]; rfl)) ?_; (with_reducible refine (rta_Response.calls k4 _ _ x16_4 a1 t132 t133 _ ?side1 ?side2 A68.out).mono ?_); (case side1 => repeat (first | exact (Kd.R_reads' HO_16.out).2.2 | (with_reducible refine Kd.C_alloc ?_ _) | (with_reducible refine Kd.C_drewN ?_ _) | (with_reducible refine Kd.C_drew ?_))); (case side2 => exact (Kd.R_reads' HO_16.out).2.1); rintro e w74 ⟨rfl, hb⟩; refine ⟨_, rfl, ?_⟩; have n0_ := Aside0.mk (Kd.R_below (by (with_reducible repeat (first | apply Kd.R_alloc | apply Kd.R_drewN | apply Kd.R_drew)); exact HO_16.out) hb); have n1_ := Aside0.mk (blk_below (g := gb101) (o := .cells #[.int .i64 a2_0, .int .i64 a2_1] 43 (0, 0)) (by (with_reducible repeat (first | refine blk_drewN ?_ _ | refine blk_drew ?_ | refine blk_alloc ?_ _)); exact BK101.out) hb); have n2_ := Aside0.mk (below_step (by repeat (first | (with_reducible first | exact HB.out | apply below_alloc | apply pw_below_drewN | apply below_drew1 | refine below_set ?_ GE101.out) | exact HB.out)) hb); clear HO_16; clear BK101; clear HB; have HO_16 := n0_; have BK101 := n1_; have HB := n2_; clear n0_ n1_ n2_; (try clear hb); (try clear hb2); (try clear hk); (try clear hi)) | (go_at_call 10; (with_reducible refine (camshaftlaw14_known.calls k4  t134 _ A72.out).mono ?_); rintro e w75 ⟨rfl, hb⟩; have n0_ := Aside0.mk (Kd.R_below (by (with_reducible repeat (first | apply Kd.R_alloc | apply Kd.R_drewN | apply Kd.R_drew)); exact HO_16.out) hb); have n1_ := Aside0.mk (blk_below (g := gb101) (o := .cells #[.int .i64 a2_0, .int .i64 a2_1] 43 (0, 0)) (by (with_reducible repeat (first | refine blk_drewN ?_ _ | refine blk_drew ?_ | refine blk_alloc ?_ _)); exact BK101.out) hb); have n2_ := Aside0.mk (below_step (by repeat (first | (with_reducible first | exact HB.out | apply below_alloc | apply pw_below_drewN | apply below_drew1 | refine below_set ?_ GE101.out) | exact HB.out)) hb); clear HO_16; clear BK101; clear HB; have HO_16 := n0_; have BK101 := n1_; have HB := n2_; clear n0_ n1_ n2_; (try clear hb); (try clear hb2); (try clear hk); (try clear hi)))
                                      go_ret
                                      exact ⟨by first | rfl | (simp [errW_none, errW_some] <;> rfl) | (simp only [← hji19, ← hji21, ← hji36]; first | rfl | (simp [errW_none, errW_some] <;> rfl)) | (simp [*, errW_none, errW_some] <;> rfl), by repeat (first | (with_reducible first | exact HB.out | apply below_alloc | apply pw_below_drewN | apply below_drew1 | refine below_set ?_ GE101.out) | exact HB.out)⟩
                                    · rw [if_neg c71] at H
                                      have c71b0 : decide (t109 < t132) = false := decide_eq_false c71
                                      clear c71
                                      obtain rfl := Option.some.inj H
                                      cases hr
                                  · rw [if_neg c70] at H
                                    have c70b0 : (t110 == 0) = false := beq_eq_false_iff_ne.mpr c70
                                    have c70b1 : (t110 != 0) = true := bne_iff_ne.mpr c70
                                    obtain rfl := Option.some.inj H
                                    cases hr
                                · rw [if_neg c69] at H
                                  have c69b0 : (t133 == 0) = false := beq_eq_false_iff_ne.mpr c69
                                  have c69b1 : (t133 != 0) = true := bne_iff_ne.mpr c69
                                  replace H := Option.bind_eq_some_iff.mp H
                                  obtain ⟨t135, A800, H⟩ := H
                                  replace H : (some t135) = some r := H
                                  have A80 := Aside0.mk A800
                                  clear A800
                                  obtain rfl := Option.some.inj H
                                  obtain ⟨Ao81, co81, eo81⟩ := Kd.R_slice HO_16.out
                                  subst eo81
                                  go_wp2_with (first | ((with_reducible refine gate_callee (f := 14) rfl ?_); refine goesL_ (some 147) rfl rfl Try.func14 (by kernel_rfl) rfl #[.slice Ao81 x16_4.length co81, .int .i64 a1] rfl (by (try simp only [List.map_toArray, List.map_cons, List.map_nil]); first | done | rfl | (simp only [List.length_drop, List.length_take]; rfl)) ?_; (with_reducible refine (rta_Response.calls k4 _ _ x16_4 a1 t132 t133 _ ?side1 ?side2 A68.out).mono ?_); (case side1 => repeat (first | exact (Kd.R_reads' HO_16.out).2.2 | (with_reducible refine Kd.C_alloc ?_ _) | (with_reducible refine Kd.C_drewN ?_ _) | (with_reducible refine Kd.C_drew ?_))); (case side2 => exact (Kd.R_reads' HO_16.out).2.1); rintro e w82 ⟨rfl, hb⟩; refine ⟨_, rfl, ?_⟩; have n0_ := Aside0.mk (Kd.R_below (by (with_reducible repeat (first | apply Kd.R_alloc | apply Kd.R_drewN | apply Kd.R_drew)); exact HO_16.out) hb); have n1_ := Aside0.mk (blk_below (g := gb101) (o := .cells #[.int .i64 a2_0, .int .i64 a2_1] 43 (0, 0)) (by (with_reducible repeat (first | refine blk_drewN ?_ _ | refine blk_drew ?_ | refine blk_alloc ?_ _)); exact BK101.out) hb); have n2_ := Aside0.mk (below_step (by repeat (first | (with_reducible first | exact HB.out | apply below_alloc | apply pw_below_drewN | apply below_drew1 | refine below_set ?_ GE101.out) | exact HB.out)) hb); clear HO_16; clear BK101; clear HB; have HO_16 := n0_; have BK101 := n1_; have HB := n2_; clear n0_ n1_ n2_; (try clear hb); (try clear hb2); (try clear hk); (try clear hi)) | (go_at_call 10; (with_reducible refine (camshaftlaw14_known.calls k4  t135 _ A80.out).mono ?_); rintro e w83 ⟨rfl, hb⟩; have n0_ := Aside0.mk (Kd.R_below (by (with_reducible repeat (first | apply Kd.R_alloc | apply Kd.R_drewN | apply Kd.R_drew)); exact HO_16.out) hb); have n1_ := Aside0.mk (blk_below (g := gb101) (o := .cells #[.int .i64 a2_0, .int .i64 a2_1] 43 (0, 0)) (by (with_reducible repeat (first | refine blk_drewN ?_ _ | refine blk_drew ?_ | refine blk_alloc ?_ _)); exact BK101.out) hb); have n2_ := Aside0.mk (below_step (by repeat (first | (with_reducible first | exact HB.out | apply below_alloc | apply pw_below_drewN | apply below_drew1 | refine below_set ?_ GE101.out) | exact HB.out)) hb); clear HO_16; clear BK101; clear HB; have HO_16 := n0_; have BK101 := n1_; have HB := n2_; clear n0_ n1_ n2_; (try clear hb); (try clear hb2); (try clear hk); (try clear hi)))
                                  go_ret
                                  exact ⟨by first | rfl | (simp [errW_none, errW_some] <;> rfl) | (simp only [← hji19, ← hji21, ← hji36]; first | rfl | (simp [errW_none, errW_some] <;> rfl)) | (simp [*, errW_none, errW_some] <;> rfl), by repeat (first | (with_reducible first | exact HB.out | apply below_alloc | apply pw_below_drewN | apply below_drew1 | refine below_set ?_ GE101.out) | exact HB.out)⟩
                        · rw [if_neg c56] at H
                          exact absurd H (by simp)
                  · rw [if_neg c39] at H
                    exact absurd H (by simp)
                · rw [if_neg c38] at H
                  exact absurd H (by simp)
              · rw [if_neg c37] at H
                exact absurd H (by simp)

end Go.Proofs.Ytpjobjgfigplhaa.PrintG
