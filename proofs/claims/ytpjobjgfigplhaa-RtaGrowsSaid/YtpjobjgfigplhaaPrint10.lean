/- WRITTEN BY A PROGRAM OF THE SESSION out of the translation: functions in plain Lean, and that the calls come to just these answers; Lean checks every line. -/
import Derived.Test.YtpjobjgfigplhaaPrint0
import Derived.Test.YtpjobjgfigplhaaPrint2
import Derived.Test.YtpjobjgfigplhaaPrint4
import Derived.Test.YtpjobjgfigplhaaPrint6
import Derived.Test.YtpjobjgfigplhaaPrint9
namespace Go.Proofs.Ytpjobjgfigplhaa.Print
open Go.RowKit Go.Proofs.YtpjobjgfigplhaaW.PrintWords Go.Proofs.YtpjobjgfigplhaaW.PrintLast Go.Proofs.YtpjobjgfigplhaaW.PrintMore
attribute [local go_sem] max2_int min2_int max_two min_two max_three min_three max_four min_four   -- for this text's walks alone
set_option linter.unusedVariables false
set_option linter.unusedSimpArgs false

/-! ### rta_Next: function 12 -/
mutual
def rta_Next.j0 : Nat → List (S41) → Int → Int → Bool → Option (Int × Int)
  | 0, _, _, _, _ => none
  | k + 1, x0, x1, x2, x22 => if x22 = true then (some (0, 1)) else (if 0 ≤ x1 then (if x1 < (x0.length : Int) then ((nat_Add.f k (([(rd_T41 x0 x1).f0, (rd_T41 x0 x1).f1] : List Int))).bind fun bt135 => (rta_Next.l0 k x1 x2 bt135.1 bt135.2 x0 (x0.length : Int) 0 ((rd_T41 x0 x1).f0) ((rd_T41 x0 x1).f1) ((rd_T41 x0 x1).f2) ((rd_T41 x0 x1).f3) ((rd_T41 x0 x1).f4) ((rd_T41 x0 x1).f5))) else (none)) else (none))
def rta_Next.l0 : Nat → Int → Int → Int → Int → List (S41) → Int → Int → Int → Int → Int → Int → Int → Int → Option (Int × Int)
  | 0, _, _, _, _, _, _, _, _, _, _, _, _, _ => none
  | k + 1, x1, x2, x9, x10, x36, x37, x38, x132000, x132001, x132002, x132003, x132004, x132005 => if x38 < x37 then (if 0 ≤ x38 then (if x38 < (x36.length : Int) then (if x10 = 0 then (if x38 = x1 then (rta_Next.j2 k x1 x2 x9 x10 x36 x37 x38 true x132000 x132001 x132002 x132003 x132004 x132005 ((rd_T41 x36 x38).f0) ((rd_T41 x36 x38).f1) ((rd_T41 x36 x38).f2) ((rd_T41 x36 x38).f3) ((rd_T41 x36 x38).f4) ((rd_T41 x36 x38).f5)) else (rta_Next.j2 k x1 x2 x9 x10 x36 x37 x38 (decide (((rd_T41 x36 x38).f5) < x132005)) x132000 x132001 x132002 x132003 x132004 x132005 ((rd_T41 x36 x38).f0) ((rd_T41 x36 x38).f1) ((rd_T41 x36 x38).f2) ((rd_T41 x36 x38).f3) ((rd_T41 x36 x38).f4) ((rd_T41 x36 x38).f5))) else (some (0, 4))) else (none)) else (none)) else (if x10 = 0 then (some (x9, 0)) else (some (0, 4)))
def rta_Next.j2 : Nat → Int → Int → Int → Int → List (S41) → Int → Int → Bool → Int → Int → Int → Int → Int → Int → Int → Int → Int → Int → Int → Int → Option (Int × Int)
  | 0, _, _, _, _, _, _, _, _, _, _, _, _, _, _, _, _, _, _, _, _ => none
  | k + 1, x1, x2, x9, x10, x36, x37, x38, x54, x132000, x132001, x132002, x132003, x132004, x132005, x139000, x139001, x139002, x139003, x139004, x139005 => if x54 = true then (rta_Next.l0 k x1 x2 x9 x10 x36 x37 (wrap64 (x38 + 1)) x132000 x132001 x132002 x132003 x132004 x132005) else ((rta_Row_adds.f k x139000 x139001 x139002 x139003 x139004 x139005 x2 x132005).bind fun bt139 => (if bt139.2 = 0 then ((nat_Add.f k (([x9, bt139.1] : List Int))).bind fun bt144 => (rta_Next.l0 k x1 x2 bt144.1 bt144.2 x36 x37 (wrap64 (x38 + 1)) x132000 x132001 x132002 x132003 x132004 x132005)) else (rta_Next.l0 k x1 x2 x9 bt139.2 x36 x37 (wrap64 (x38 + 1)) x132000 x132001 x132002 x132003 x132004 x132005)))
end
def rta_Next.f (k : Nat) (l0 : List (S41)) (a1 : Int) (a2 : Int) : Option (Int × Int) := (rta_there.f k l0 a1).bind fun t128 => (if t128 = true then ((nat_Right.f a2).bind fun t129 => (rta_Next.j0 k l0 a1 a2 (!t129))) else (rta_Next.j0 k l0 a1 a2 true))
theorem rta_Next.mono_l : ∀ k, (∀ y0 y1 y2 y3, LeO (rta_Next.j0 k y0 y1 y2 y3) (rta_Next.j0 (k + 1) y0 y1 y2 y3)) ∧ (∀ y0 y1 y2 y3 y4 y5 y6 y7 y8 y9 y10 y11 y12, LeO (rta_Next.l0 k y0 y1 y2 y3 y4 y5 y6 y7 y8 y9 y10 y11 y12) (rta_Next.l0 (k + 1) y0 y1 y2 y3 y4 y5 y6 y7 y8 y9 y10 y11 y12)) ∧ (∀ y0 y1 y2 y3 y4 y5 y6 y7 y8 y9 y10 y11 y12 y13 y14 y15 y16 y17 y18 y19, LeO (rta_Next.j2 k y0 y1 y2 y3 y4 y5 y6 y7 y8 y9 y10 y11 y12 y13 y14 y15 y16 y17 y18 y19) (rta_Next.j2 (k + 1) y0 y1 y2 y3 y4 y5 y6 y7 y8 y9 y10 y11 y12 y13 y14 y15 y16 y17 y18 y19))
  | 0 => ⟨fun _ _ _ _ r h => by simp [rta_Next.j0] at h, fun _ _ _ _ _ _ _ _ _ _ _ _ _ r h => by simp [rta_Next.l0] at h, fun _ _ _ _ _ _ _ _ _ _ _ _ _ _ _ _ _ _ _ _ r h => by simp [rta_Next.j2] at h⟩
  | k + 1 => by
    obtain ⟨ih0, ih1, ih2⟩ := rta_Next.mono_l k
    refine ⟨?_, ?_, ?_⟩
    · intro y0 y1 y2 y3
      unfold rta_Next.j0
      repeat' first
      | (with_reducible exact ih0 _ _ _ _)
      | (with_reducible exact ih1 _ _ _ _ _ _ _ _ _ _ _ _ _)
      | (with_reducible exact ih2 _ _ _ _ _ _ _ _ _ _ _ _ _ _ _ _ _ _ _ _)
      | (with_reducible exact nat_Add.mono _ _)
      | (with_reducible exact rta_Row_adds.mono _ _ _ _ _ _ _ _ _)
      | (with_reducible exact rta_there.mono _ _ _)
      | (with_reducible exact LeO.refl _)
      | (with_reducible exact LeO.none _)
      | (with_reducible refine LeO.ite ?_ ?_)
      | (with_reducible refine LeO.bind ?_ (fun _ => ?_))
      | exact ih0 _ _ _ _
      | exact ih1 _ _ _ _ _ _ _ _ _ _ _ _ _
      | exact ih2 _ _ _ _ _ _ _ _ _ _ _ _ _ _ _ _ _ _ _ _
      | exact nat_Add.mono _ _
      | exact rta_Row_adds.mono _ _ _ _ _ _ _ _ _
      | exact rta_there.mono _ _ _
      | exact LeO.none _
      | refine LeO.ite ?_ ?_
      | refine LeO.bind ?_ (fun _ => ?_)
    · intro y0 y1 y2 y3 y4 y5 y6 y7 y8 y9 y10 y11 y12
      unfold rta_Next.l0
      repeat' first
      | (with_reducible exact ih0 _ _ _ _)
      | (with_reducible exact ih1 _ _ _ _ _ _ _ _ _ _ _ _ _)
      | (with_reducible exact ih2 _ _ _ _ _ _ _ _ _ _ _ _ _ _ _ _ _ _ _ _)
      | (with_reducible exact nat_Add.mono _ _)
      | (with_reducible exact rta_Row_adds.mono _ _ _ _ _ _ _ _ _)
      | (with_reducible exact rta_there.mono _ _ _)
      | (with_reducible exact LeO.refl _)
      | (with_reducible exact LeO.none _)
      | (with_reducible refine LeO.ite ?_ ?_)
      | (with_reducible refine LeO.bind ?_ (fun _ => ?_))
      | exact ih0 _ _ _ _
      | exact ih1 _ _ _ _ _ _ _ _ _ _ _ _ _
      | exact ih2 _ _ _ _ _ _ _ _ _ _ _ _ _ _ _ _ _ _ _ _
      | exact nat_Add.mono _ _
      | exact rta_Row_adds.mono _ _ _ _ _ _ _ _ _
      | exact rta_there.mono _ _ _
      | exact LeO.none _
      | refine LeO.ite ?_ ?_
      | refine LeO.bind ?_ (fun _ => ?_)
    · intro y0 y1 y2 y3 y4 y5 y6 y7 y8 y9 y10 y11 y12 y13 y14 y15 y16 y17 y18 y19
      unfold rta_Next.j2
      repeat' first
      | (with_reducible exact ih0 _ _ _ _)
      | (with_reducible exact ih1 _ _ _ _ _ _ _ _ _ _ _ _ _)
      | (with_reducible exact ih2 _ _ _ _ _ _ _ _ _ _ _ _ _ _ _ _ _ _ _ _)
      | (with_reducible exact nat_Add.mono _ _)
      | (with_reducible exact rta_Row_adds.mono _ _ _ _ _ _ _ _ _)
      | (with_reducible exact rta_there.mono _ _ _)
      | (with_reducible exact LeO.refl _)
      | (with_reducible exact LeO.none _)
      | (with_reducible refine LeO.ite ?_ ?_)
      | (with_reducible refine LeO.bind ?_ (fun _ => ?_))
      | exact ih0 _ _ _ _
      | exact ih1 _ _ _ _ _ _ _ _ _ _ _ _ _
      | exact ih2 _ _ _ _ _ _ _ _ _ _ _ _ _ _ _ _ _ _ _ _
      | exact nat_Add.mono _ _
      | exact rta_Row_adds.mono _ _ _ _ _ _ _ _ _
      | exact rta_there.mono _ _ _
      | exact LeO.none _
      | refine LeO.ite ?_ ?_
      | refine LeO.bind ?_ (fun _ => ?_)
theorem rta_Next.mono : ∀ a0 a1 a2 k, LeO (rta_Next.f k a0 a1 a2) (rta_Next.f (k + 1) a0 a1 a2) := by
  intro a0 a1 a2 k
  obtain ⟨ih0, ih1, ih2⟩ := rta_Next.mono_l k
  unfold rta_Next.f
  repeat' first
      | (with_reducible exact ih0 _ _ _ _)
      | (with_reducible exact ih1 _ _ _ _ _ _ _ _ _ _ _ _ _)
      | (with_reducible exact ih2 _ _ _ _ _ _ _ _ _ _ _ _ _ _ _ _ _ _ _ _)
      | (with_reducible exact nat_Add.mono _ _)
      | (with_reducible exact rta_Row_adds.mono _ _ _ _ _ _ _ _ _)
      | (with_reducible exact rta_there.mono _ _ _)
      | (with_reducible exact LeO.refl _)
      | (with_reducible exact LeO.none _)
      | (with_reducible refine LeO.ite ?_ ?_)
      | (with_reducible refine LeO.bind ?_ (fun _ => ?_))
      | exact ih0 _ _ _ _
      | exact ih1 _ _ _ _ _ _ _ _ _ _ _ _ _
      | exact ih2 _ _ _ _ _ _ _ _ _ _ _ _ _ _ _ _ _ _ _ _
      | exact nat_Add.mono _ _
      | exact rta_Row_adds.mono _ _ _ _ _ _ _ _ _
      | exact rta_there.mono _ _ _
      | exact LeO.none _
      | refine LeO.ite ?_ ?_
      | refine LeO.bind ?_ (fun _ => ?_)
set_option maxHeartbeats 8000000 in
set_option maxRecDepth 100000 in
theorem rta_Next.calls (k : Nat) (A0 : Option Addr) (c0 : Nat) (l0 : List (S41)) (a1 : Int) (a2 : Int) (r1 : Int) (r2 : Int) (w : World) (hr0 : Kd.C k41 w A0 l0.length l0) (hc0 : l0.length ≤ c0) (h : rta_Next.f k l0 a1 a2 = some (r1, r2)) :
    Calls Try.prog 12 #[.slice A0 l0.length c0, .int .i64 a1, .int .i64 a2] w fun e w' => e = .returned (.tuple #[.int .i64 r1, .int .i64 r2]) ∧ Below w.heap.size w w' := by
  have hu41 := Try.underlying41
  have HR0 := Aside0.mk hr0
  have HC0 := Aside0.mk hc0
  clear hr0 hc0
  have HB := Aside0.mk (Below.refl w.heap.size w)
  have H : ((rta_there.f k l0 a1).bind fun t128 => (if t128 = true then ((nat_Right.f a2).bind fun t129 => (rta_Next.j0 k l0 a1 a2 (!t129))) else (rta_Next.j0 k l0 a1 a2 true))) = some (r1, r2) := h
  clear h
  have HC4 := Aside0.mk H
  clear H
  go_enter Try.func12, Try.ntmps12
  go_upto_region 1 with (fail)
  go_cut [22] (fun v22 wc => ∃ (kq : Nat) (x22_3 : Bool), v22 = .bool x22_3 ∧ Aside0 (rta_Next.j0 kq l0 a1 a2 x22_3 = some (r1, r2)) ∧ Aside0 (kq ≤ k) ∧ Aside0 (Below w.heap.size w wc))
  case first =>
    have H := HC4.out
    clear HC4
    replace H := Option.bind_eq_some_iff.mp H
    obtain ⟨t128, A50, H⟩ := H
    replace H : (if t128 = true then ((nat_Right.f a2).bind fun t129 => (rta_Next.j0 k l0 a1 a2 (!t129))) else (rta_Next.j0 k l0 a1 a2 true)) = some (r1, r2) := H
    have A5 := Aside0.mk A50
    clear A50
    by_cases c6 : t128 = true
    · subst c6
      have H1 : ((nat_Right.f a2).bind fun t129 => (rta_Next.j0 k l0 a1 a2 (!t129))) = some (r1, r2) := by rw [if_pos rfl] at H; exact H
      clear H
      have H := H1
      clear H1
      replace H := Option.bind_eq_some_iff.mp H
      obtain ⟨t129, A70, H⟩ := H
      replace H : (rta_Next.j0 k l0 a1 a2 (!t129)) = some (r1, r2) := H
      have A7 := Aside0.mk A70
      clear A70
      have H' := Aside0.mk H
      clear H
      go_wp2_with (first | ((with_reducible refine gate_callee (f := 21) rfl ?_); refine goesL_ (some 16) rfl rfl Try.func21 (by kernel_rfl) rfl #[.slice A0 l0.length c0, .int .i64 a1] rfl (by (try simp only [List.map_toArray, List.map_cons, List.map_nil]); first | done | rfl | (simp only [List.length_drop, List.length_take]; rfl)) ?_; (with_reducible refine (rta_there.calls k _ _ l0 a1 true _ ?side1 ?side2 A5.out).mono ?_); (case side1 => repeat (first | exact (Kd.C_below HR0.out HB.out) | (with_reducible refine Kd.C_alloc ?_ _) | (with_reducible refine Kd.C_drewN ?_ _) | (with_reducible refine Kd.C_drew ?_))); (case side2 => exact HC0.out); rintro e w8 ⟨rfl, hb⟩; refine ⟨_, rfl, ?_⟩; have n0_ := Aside0.mk (below_step (by repeat (first | (with_reducible first | exact HB.out | apply below_alloc | apply pw_below_drewN | apply below_drew1) | exact HB.out)) hb); clear HB; have HB := n0_; clear n0_; (try clear hb); (try clear hb2); (try clear hk); (try clear hi)) | (go_at_call 22; (with_reducible refine (nat_Right.calls a2 t129 _ A7.out).mono ?_); rintro e w' ⟨rfl, ⟨nd, rfl⟩⟩))
      go_meet
      case rel => exact ⟨_, (!t129), (by first | rfl | (simp; done) | (simp [*]; done)), H', ⟨by first | omega | exact Nat.le_refl _⟩, ⟨by repeat (first | (with_reducible first | exact HB.out | apply below_alloc | apply pw_below_drewN | apply below_drew1) | exact HB.out)⟩⟩
    · replace c6 := Bool.eq_false_iff.mpr c6
      subst c6
      have H1 : (rta_Next.j0 k l0 a1 a2 true) = some (r1, r2) := by rw [if_neg (show ¬ (false = true) by decide)] at H; exact H
      clear H
      have H := H1
      clear H1
      have H' := Aside0.mk H
      clear H
      go_wp2_with (first | ((with_reducible refine gate_callee (f := 21) rfl ?_); refine goesL_ (some 16) rfl rfl Try.func21 (by kernel_rfl) rfl #[.slice A0 l0.length c0, .int .i64 a1] rfl (by (try simp only [List.map_toArray, List.map_cons, List.map_nil]); first | done | rfl | (simp only [List.length_drop, List.length_take]; rfl)) ?_; (with_reducible refine (rta_there.calls k _ _ l0 a1 false _ ?side1 ?side2 A5.out).mono ?_); (case side1 => repeat (first | exact (Kd.C_below HR0.out HB.out) | (with_reducible refine Kd.C_alloc ?_ _) | (with_reducible refine Kd.C_drewN ?_ _) | (with_reducible refine Kd.C_drew ?_))); (case side2 => exact HC0.out); rintro e w9 ⟨rfl, hb⟩; refine ⟨_, rfl, ?_⟩; have n0_ := Aside0.mk (below_step (by repeat (first | (with_reducible first | exact HB.out | apply below_alloc | apply pw_below_drewN | apply below_drew1) | exact HB.out)) hb); clear HB; have HB := n0_; clear n0_; (try clear hb); (try clear hb2); (try clear hk); (try clear hi)))
      go_meet
      case rel => exact ⟨_, (true), (by first | rfl | (simp; done) | (simp [*]; done)), H', ⟨by first | omega | exact Nat.le_refl _⟩, ⟨by repeat (first | (with_reducible first | exact HB.out | apply below_alloc | apply pw_below_drewN | apply below_drew1) | exact HB.out)⟩⟩
  case rest =>
    clear HC4
    try clear c1
    try clear c2
    try clear p2
    try clear c6
    obtain ⟨kq, x22_3, rfl, HA, HJ3, HB⟩ := hcut
    cases kq with
    | zero => exact absurd HA.out (by simp [rta_Next.j0])
    | succ kj3 =>
      have H := HA.out
      clear HA
      simp only [rta_Next.j0] at H
      by_cases c10 : x22_3 = true
      · subst c10
        have H1 : (some (0, 1)) = some (r1, r2) := by rw [if_pos rfl] at H; exact H
        clear H
        have H := H1
        clear H1
        simp only [Option.some.injEq, Prod.mk.injEq] at H
        obtain ⟨rfl, rfl⟩ := H
        go_wp2
        go_ret2
        exact ⟨by first | rfl | (simp [errW_none, errW_some] <;> rfl) | (simp [*, errW_none, errW_some] <;> rfl), by repeat (first | (with_reducible first | exact HB.out | apply below_alloc | apply pw_below_drewN | apply below_drew1) | exact HB.out)⟩
      · replace c10 := Bool.eq_false_iff.mpr c10
        subst c10
        have H1 : (if 0 ≤ a1 then (if a1 < (l0.length : Int) then ((nat_Add.f kj3 (([(rd_T41 l0 a1).f0, (rd_T41 l0 a1).f1] : List Int))).bind fun bt135 => (rta_Next.l0 kj3 a1 a2 bt135.1 bt135.2 l0 (l0.length : Int) 0 ((rd_T41 l0 a1).f0) ((rd_T41 l0 a1).f1) ((rd_T41 l0 a1).f2) ((rd_T41 l0 a1).f3) ((rd_T41 l0 a1).f4) ((rd_T41 l0 a1).f5))) else (none)) else (none)) = some (r1, r2) := by rw [if_neg (show ¬ (false = true) by decide)] at H; exact H
        clear H
        have H := H1
        clear H1
        by_cases c11 : 0 ≤ a1
        · rw [if_pos c11] at H
          have c11b0 : decide (0 ≤ a1) = true := decide_eq_true c11
          clear c11
          by_cases c12 : a1 < (l0.length : Int)
          · rw [if_pos c12] at H
            have c12b0 : decide (a1 < (l0.length : Int)) = true := decide_eq_true c12
            clear c12
            obtain ⟨y132, hy132⟩ : ∃ y_ : List Int, y_ = (([(rd_T41 l0 a1).f0, (rd_T41 l0 a1).f1] : List Int)) := ⟨_, rfl⟩
            replace H : ((nat_Add.f kj3 y132).bind fun bt135 => (rta_Next.l0 kj3 a1 a2 bt135.1 bt135.2 l0 (l0.length : Int) 0 ((rd_T41 l0 a1).f0) ((rd_T41 l0 a1).f1) ((rd_T41 l0 a1).f2) ((rd_T41 l0 a1).f3) ((rd_T41 l0 a1).f4) ((rd_T41 l0 a1).f5))) = some (r1, r2) := by first | (rw [hy132]; with_reducible exact H) | (have H2_ := (Option.bind_some _ _).symm.trans H; rw [hy132]; with_reducible exact H2_) | (have H2_ := (Option.bind_some _ _).symm.trans H; with_reducible exact H2_) | with_reducible exact H | (rw [hy132]; exact H) | exact H
            have Ny132 := Aside0.mk hy132
            clear hy132
            replace H := Option.bind_eq_some_iff.mp H
            obtain ⟨⟨t135, t136⟩, A130, H⟩ := H
            replace H : (rta_Next.l0 kj3 a1 a2 t135 t136 l0 (l0.length : Int) 0 ((rd_T41 l0 a1).f0) ((rd_T41 l0 a1).f1) ((rd_T41 l0 a1).f2) ((rd_T41 l0 a1).f3) ((rd_T41 l0 a1).f4) ((rd_T41 l0 a1).f5)) = some (r1, r2) := H
            have A13 := Aside0.mk A130
            clear A130
            have H' := Aside0.mk H
            clear H
            have p130 : 0 ≤ (a1 : Int) := of_decide_eq_true (by first | (with_reducible assumption) | assumption)
            have q130 : a1 < (l0.length : Int) := of_decide_eq_true (by first | (with_reducible assumption) | assumption)
            obtain ⟨ad130, e130, hx130_0, hx130_1, hx130_2, hx130_3, hx130_4, hx130_5⟩ := at_T41 HR0.out a1 p130 q130
            cases e130
            replace hx130_0 := (HB.out.cell (World.block_lt_of_cell? w _ hx130_0)).trans hx130_0
            replace hx130_1 := (HB.out.cell (World.block_lt_of_cell? w _ hx130_1)).trans hx130_1
            replace hx130_2 := (HB.out.cell (World.block_lt_of_cell? w _ hx130_2)).trans hx130_2
            replace hx130_3 := (HB.out.cell (World.block_lt_of_cell? w _ hx130_3)).trans hx130_3
            replace hx130_4 := (HB.out.cell (World.block_lt_of_cell? w _ hx130_4)).trans hx130_4
            replace hx130_5 := (HB.out.cell (World.block_lt_of_cell? w _ hx130_5)).trans hx130_5
            replace p130 := eq_true p130
            replace q130 := eq_true q130
            go_wp2_with (first | ((with_reducible refine gate_dst (N := 8) rfl ?_); refine box_event ?hg (N := 8) ?hd (cs := #[.int .i64 0, .int .i64 0, .int .i64 0, .int .i64 0, .int .i64 0, .int .i64 0]) (t := 41) ?hr ?_; (case hd => rfl); (case hg => rfl); (case hr => first | (go_simp; done) | (go_simp; rfl)); intro gb131 hg w14 hbox hb; have n0_ := Aside0.mk (below_step (by repeat (first | (with_reducible first | exact HB.out | apply below_alloc | apply pw_below_drewN | apply below_drew1) | exact HB.out)) hb); have n1_ := Aside0.mk (hbox); have n2_ := Aside0.mk ((by rw [hg]; exact (below_size (by repeat (first | (with_reducible first | exact HB.out | apply below_alloc | apply pw_below_drewN | apply below_drew1) | exact HB.out))) : w.heap.size ≤ gb131)); have n3_ := Aside0.mk ((by rw [hg]; exact (below_size (by repeat (first | (with_reducible first | exact HB.out | apply below_alloc | apply pw_below_drewN | apply below_drew1) | exact HB.out))) : w.heap.size ≤ gb131)); clear HB; have HB := n0_; have BK131 := n1_; have GW131 := n2_; have GE131 := n3_; clear n0_ n1_ n2_ n3_; clear hb hbox hg; have hcz15_0 : w14.cell? ⟨gb131, 0, none⟩ = some (.int .i64 0) := (blk_cell BK131.out 0).trans rfl; have hcz15_1 : w14.cell? ⟨gb131, 1, none⟩ = some (.int .i64 0) := (blk_cell BK131.out 1).trans rfl; have hcz15_2 : w14.cell? ⟨gb131, 2, none⟩ = some (.int .i64 0) := (blk_cell BK131.out 2).trans rfl; have hcz15_3 : w14.cell? ⟨gb131, 3, none⟩ = some (.int .i64 0) := (blk_cell BK131.out 3).trans rfl; have hcz15_4 : w14.cell? ⟨gb131, 4, none⟩ = some (.int .i64 0) := (blk_cell BK131.out 4).trans rfl; have hcz15_5 : w14.cell? ⟨gb131, 5, none⟩ = some (.int .i64 0) := (blk_cell BK131.out 5).trans rfl; have hfz15_0 := blk_frozen BK131.out 0; have hfz15_1 := blk_frozen BK131.out 1; have hfz15_2 := blk_frozen BK131.out 2; have hfz15_3 := blk_frozen BK131.out 3; have hfz15_4 := blk_frozen BK131.out 4; have hfz15_5 := blk_frozen BK131.out 5) | ((with_reducible refine gate_dst (N := 32) rfl ?_); refine Kd.R_lit (Kd.int .i64) _ 3 ?hg (N := 32) ?hd (xs := ([(rd_T41 l0 a1).f0, (rd_T41 l0 a1).f1] : List Int)) (inner := [.int .i64 ((rd_T41 l0 a1).f0), .int .i64 ((rd_T41 l0 a1).f1)]) (ok := fun _ => True) (okp := fun _ => True) ?hr ?hp (fun _ hk => hk) trivial (Below.refl _ _) (Nat.le_refl _) (by simp) ?_; (case hd => rfl); (case hg => rfl); (case hr => first | (go_simp; done) | (go_simp; rfl)); (case hp => exact (Reps.one (show Kd.M (Kd.int .i64) _ _ _ ((rd_T41 l0 a1).f0) [.int .i64 ((rd_T41 l0 a1).f0)] from rfl) (Reps.one (show Kd.M (Kd.int .i64) _ _ _ ((rd_T41 l0 a1).f1) [.int .i64 ((rd_T41 l0 a1).f1)] from rfl) (Reps.none _ _)))); intro v133 w16 ho17 hb hg_ hnew_; clear hg_ hnew_; (first | rw [← Ny132.out] at ho17 | (simp only [Int.reduceToNat] at ho17; rw [← Ny132.out] at ho17)); have n0_ := Aside0.mk (Kd.R_lower ho17 (below_size (by repeat (first | (with_reducible first | exact HB.out | apply below_alloc | apply pw_below_drewN | apply below_drew1 | refine below_set ?_ GE131.out) | exact HB.out)))); have n1_ := Aside0.mk (blk_below (g := gb131) (o := .cells #[.int .i64 ((rd_T41 l0 a1).f0), .int .i64 ((rd_T41 l0 a1).f1), .int .i64 ((rd_T41 l0 a1).f2), .int .i64 ((rd_T41 l0 a1).f3), .int .i64 ((rd_T41 l0 a1).f4), .int .i64 ((rd_T41 l0 a1).f5)] 41 (0, 0)) (by (with_reducible repeat (first | refine blk_drewN ?_ _ | refine blk_drew ?_ | refine blk_alloc ?_ _)); refine blk_put (cs := #[.int .i64 ((rd_T41 l0 a1).f0), .int .i64 ((rd_T41 l0 a1).f1), .int .i64 ((rd_T41 l0 a1).f2), .int .i64 ((rd_T41 l0 a1).f3), .int .i64 ((rd_T41 l0 a1).f4), .int .i64 0]) ?_ 5 _ rfl; (with_reducible repeat (first | refine blk_drewN ?_ _ | refine blk_drew ?_ | refine blk_alloc ?_ _)); refine blk_put (cs := #[.int .i64 ((rd_T41 l0 a1).f0), .int .i64 ((rd_T41 l0 a1).f1), .int .i64 ((rd_T41 l0 a1).f2), .int .i64 ((rd_T41 l0 a1).f3), .int .i64 0, .int .i64 0]) ?_ 4 _ rfl; (with_reducible repeat (first | refine blk_drewN ?_ _ | refine blk_drew ?_ | refine blk_alloc ?_ _)); refine blk_put (cs := #[.int .i64 ((rd_T41 l0 a1).f0), .int .i64 ((rd_T41 l0 a1).f1), .int .i64 ((rd_T41 l0 a1).f2), .int .i64 0, .int .i64 0, .int .i64 0]) ?_ 3 _ rfl; (with_reducible repeat (first | refine blk_drewN ?_ _ | refine blk_drew ?_ | refine blk_alloc ?_ _)); refine blk_put (cs := #[.int .i64 ((rd_T41 l0 a1).f0), .int .i64 ((rd_T41 l0 a1).f1), .int .i64 0, .int .i64 0, .int .i64 0, .int .i64 0]) ?_ 2 _ rfl; (with_reducible repeat (first | refine blk_drewN ?_ _ | refine blk_drew ?_ | refine blk_alloc ?_ _)); refine blk_put (cs := #[.int .i64 ((rd_T41 l0 a1).f0), .int .i64 0, .int .i64 0, .int .i64 0, .int .i64 0, .int .i64 0]) ?_ 1 _ rfl; (with_reducible repeat (first | refine blk_drewN ?_ _ | refine blk_drew ?_ | refine blk_alloc ?_ _)); refine blk_put (cs := #[.int .i64 0, .int .i64 0, .int .i64 0, .int .i64 0, .int .i64 0, .int .i64 0]) ?_ 0 _ rfl; (with_reducible repeat (first | refine blk_drewN ?_ _ | refine blk_drew ?_ | refine blk_alloc ?_ _)); exact BK131.out) hb); have n2_ := Aside0.mk (below_step (by repeat (first | (with_reducible first | exact HB.out | apply below_alloc | apply pw_below_drewN | apply below_drew1 | refine below_set ?_ GE131.out) | exact HB.out)) hb); clear BK131; clear HB; have HO134 := n0_; have BK131 := n1_; have HB := n2_; clear n0_ n1_ n2_; clear hb ho17; obtain ⟨Ao18, co18, eo18⟩ := Kd.R_slice HO134.out; subst eo18) | ((with_reducible refine gate_callee (f := 23) rfl ?_); refine goesL_ (some 33) rfl rfl Try.func23 (by kernel_rfl) rfl #[.slice Ao18 y132.length co18] rfl (by (try simp only [List.map_toArray, List.map_cons, List.map_nil]); first | done | rfl | (simp only [List.length_drop, List.length_take]; rfl)) ?_; (with_reducible refine (nat_Add.calls kj3 _ _ y132 t135 t136 _ ?side1 ?side2 A13.out).mono ?_); (case side1 => repeat (first | exact (Kd.R_reads' HO134.out).2.2 | (with_reducible refine Kd.C_alloc ?_ _) | (with_reducible refine Kd.C_drewN ?_ _) | (with_reducible refine Kd.C_drew ?_))); (case side2 => exact (Kd.R_reads' HO134.out).2.1); rintro e w' ⟨rfl, ⟨nd, rfl⟩⟩; refine ⟨_, rfl, ?_⟩))
            go_loopg [9, 10, 38] kj3 (fun kq v9 v10 v38 w' => ∃ (x9_2 : Int) (x10_2 : Int) (x38_2 : Int), v9 = .int .i64 x9_2 ∧ v10 = .int .i64 x10_2 ∧ v38 = .int .i64 x38_2 ∧ Aside0 (rta_Next.l0 kq a1 a2 x9_2 x10_2 l0 (l0.length : Int) x38_2 ((rd_T41 l0 a1).f0) ((rd_T41 l0 a1).f1) ((rd_T41 l0 a1).f2) ((rd_T41 l0 a1).f3) ((rd_T41 l0 a1).f4) ((rd_T41 l0 a1).f5) = some (r1, r2)) ∧ Aside0 (kq ≤ kj3) ∧ Aside0 (w'.heap[gb131]? = some (.cells #[.int .i64 ((rd_T41 l0 a1).f0), .int .i64 ((rd_T41 l0 a1).f1), .int .i64 ((rd_T41 l0 a1).f2), .int .i64 ((rd_T41 l0 a1).f3), .int .i64 ((rd_T41 l0 a1).f4), .int .i64 ((rd_T41 l0 a1).f5)] 41 (0, 0))) ∧ Aside0 (Below w.heap.size w w'))
            case atStart => exact ⟨(t135), (t136), (0), (by first | rfl | (simp; done) | (simp [*]; done)), (by first | rfl | (simp; done) | (simp [*]; done)), (by first | rfl | (simp; done) | (simp [*]; done)), H', ⟨Nat.le_refl _⟩, ⟨by (with_reducible repeat (first | refine blk_drewN ?_ _ | refine blk_drew ?_ | refine blk_alloc ?_ _)); exact BK131.out⟩, ⟨by repeat (first | (with_reducible first | exact HB.out | apply below_alloc | apply pw_below_drewN | apply below_drew1 | refine below_set ?_ GE131.out) | exact HB.out)⟩⟩
            case round =>
              clear H'
              try clear c1
              try clear p1
              try clear q1
              try clear hx1
              try clear c2
              try clear p2
              try clear c6
              try clear c10
              try clear c11
              try clear c11b0
              try clear c12
              try clear c12b0
              try clear p13
              try clear q13
              try clear hx13
              try clear hcz15_0
              try clear hcz15_1
              try clear hcz15_2
              try clear hcz15_3
              try clear hcz15_4
              try clear hcz15_5
              try clear hfz15_0
              try clear hfz15_1
              try clear hfz15_2
              try clear hfz15_3
              try clear hfz15_4
              try clear hfz15_5
              try clear hx130_0
              try clear hx130_1
              try clear hx130_2
              try clear hx130_3
              try clear hx130_4
              try clear hx130_5
              try clear p130
              try clear p2
              try clear q130
              obtain ⟨x9_2, x10_2, x38_2, rfl, rfl, rfl, HA, HK2, BK131, HB⟩ := hrel
              cases gk with
              | zero => exact absurd HA.out (by simp [rta_Next.l0])
              | succ k2 =>
                have H := HA.out
                clear HA
                simp only [rta_Next.l0] at H
                by_cases c19 : x38_2 < (l0.length : Int)
                · rw [if_pos c19] at H
                  have c19b0 : decide (x38_2 < (l0.length : Int)) = true := decide_eq_true c19
                  clear c19
                  by_cases c20 : 0 ≤ x38_2
                  · rw [if_pos c20] at H
                    have c20b0 : decide (0 ≤ x38_2) = true := decide_eq_true c20
                    clear c20
                    by_cases c21 : x38_2 < (l0.length : Int)
                    · rw [if_pos c21] at H
                      have c21b0 : decide (x38_2 < (l0.length : Int)) = true := decide_eq_true c21
                      clear c21
                      by_cases c22 : x10_2 = 0
                      · rw [if_pos c22] at H
                        have c22b0 : (x10_2 == 0) = true := beq_iff_eq.mpr c22
                        have c22b1 : (x10_2 != 0) = false := bne_eq_false_iff_eq.mpr c22
                        clear c22
                        have HC23 := Aside0.mk H
                        clear H
                        have p137 : 0 ≤ (x38_2 : Int) := of_decide_eq_true (by first | (with_reducible assumption) | assumption)
                        have q137 : x38_2 < (l0.length : Int) := of_decide_eq_true (by first | (with_reducible assumption) | assumption)
                        obtain ⟨ad137, e137, hx137_0, hx137_1, hx137_2, hx137_3, hx137_4, hx137_5⟩ := at_T41 HR0.out x38_2 p137 q137
                        obtain rfl : ad130 = ad137 := (by injection e137)
                        replace hx137_0 := (HB.out.cell (World.block_lt_of_cell? w _ hx137_0)).trans hx137_0
                        replace hx137_1 := (HB.out.cell (World.block_lt_of_cell? w _ hx137_1)).trans hx137_1
                        replace hx137_2 := (HB.out.cell (World.block_lt_of_cell? w _ hx137_2)).trans hx137_2
                        replace hx137_3 := (HB.out.cell (World.block_lt_of_cell? w _ hx137_3)).trans hx137_3
                        replace hx137_4 := (HB.out.cell (World.block_lt_of_cell? w _ hx137_4)).trans hx137_4
                        replace hx137_5 := (HB.out.cell (World.block_lt_of_cell? w _ hx137_5)).trans hx137_5
                        replace p137 := eq_true p137
                        replace q137 := eq_true q137
                        go_upto_region 9 with (first | ((with_reducible refine gate_dst (N := 12) rfl ?_); refine box_event ?hg (N := 12) ?hd (cs := #[.int .i64 0, .int .i64 0, .int .i64 0, .int .i64 0, .int .i64 0, .int .i64 0]) (t := 41) ?hr ?_; (case hd => rfl); (case hg => rfl); (case hr => first | (go_simp; done) | (go_simp; rfl)); intro gb138 hg w24 hbox hb; have n0_ := Aside0.mk (blk_below (g := gb131) (o := .cells #[.int .i64 ((rd_T41 l0 a1).f0), .int .i64 ((rd_T41 l0 a1).f1), .int .i64 ((rd_T41 l0 a1).f2), .int .i64 ((rd_T41 l0 a1).f3), .int .i64 ((rd_T41 l0 a1).f4), .int .i64 ((rd_T41 l0 a1).f5)] 41 (0, 0)) (by (with_reducible repeat (first | refine blk_drewN ?_ _ | refine blk_drew ?_ | refine blk_alloc ?_ _)); exact BK131.out) hb); have n1_ := Aside0.mk (below_step (by repeat (first | (with_reducible first | exact HB.out | apply below_alloc | apply pw_below_drewN | apply below_drew1 | refine below_set ?_ GE131.out) | exact HB.out)) hb); have n2_ := Aside0.mk (hbox); have n3_ := Aside0.mk ((by rw [hg]; exact (below_size (by repeat (first | (with_reducible first | exact HB.out | apply below_alloc | apply pw_below_drewN | apply below_drew1 | refine below_set ?_ GE131.out) | exact HB.out))) : w.heap.size ≤ gb138)); have n4_ := Aside0.mk ((by rw [hg]; exact (below_size (by repeat (first | (with_reducible first | exact HB.out | apply below_alloc | apply pw_below_drewN | apply below_drew1 | refine below_set ?_ GE131.out) | exact HB.out))) : w.heap.size ≤ gb138)); have n5_ := Aside0.mk ((by rw [hg]; exact Nat.ne_of_lt (blk_lt (g := gb131) (o := .cells #[.int .i64 ((rd_T41 l0 a1).f0), .int .i64 ((rd_T41 l0 a1).f1), .int .i64 ((rd_T41 l0 a1).f2), .int .i64 ((rd_T41 l0 a1).f3), .int .i64 ((rd_T41 l0 a1).f4), .int .i64 ((rd_T41 l0 a1).f5)] 41 (0, 0)) (by (with_reducible repeat (first | refine blk_drewN ?_ _ | refine blk_drew ?_ | refine blk_alloc ?_ _)); exact BK131.out)) : gb131 ≠ gb138)); have n6_ := Aside0.mk ((by rw [hg]; exact Nat.ne_of_gt (blk_lt (g := gb131) (o := .cells #[.int .i64 ((rd_T41 l0 a1).f0), .int .i64 ((rd_T41 l0 a1).f1), .int .i64 ((rd_T41 l0 a1).f2), .int .i64 ((rd_T41 l0 a1).f3), .int .i64 ((rd_T41 l0 a1).f4), .int .i64 ((rd_T41 l0 a1).f5)] 41 (0, 0)) (by (with_reducible repeat (first | refine blk_drewN ?_ _ | refine blk_drew ?_ | refine blk_alloc ?_ _)); exact BK131.out)) : gb138 ≠ gb131)); clear BK131; clear HB; have BK131 := n0_; have HB := n1_; have BK138 := n2_; have GW138 := n3_; have GE138 := n4_; have NB131_138 := n5_; have NB138_131 := n6_; clear n0_ n1_ n2_ n3_ n4_ n5_ n6_; clear hb hbox hg; have hnb25 := NB138_131.out; have hnc25 := NB131_138.out; have hcz26_0 : w24.cell? ⟨gb138, 0, none⟩ = some (.int .i64 0) := (blk_cell BK138.out 0).trans rfl; have hcz26_1 : w24.cell? ⟨gb138, 1, none⟩ = some (.int .i64 0) := (blk_cell BK138.out 1).trans rfl; have hcz26_2 : w24.cell? ⟨gb138, 2, none⟩ = some (.int .i64 0) := (blk_cell BK138.out 2).trans rfl; have hcz26_3 : w24.cell? ⟨gb138, 3, none⟩ = some (.int .i64 0) := (blk_cell BK138.out 3).trans rfl; have hcz26_4 : w24.cell? ⟨gb138, 4, none⟩ = some (.int .i64 0) := (blk_cell BK138.out 4).trans rfl; have hcz26_5 : w24.cell? ⟨gb138, 5, none⟩ = some (.int .i64 0) := (blk_cell BK138.out 5).trans rfl; have hfz26_0 := blk_frozen BK138.out 0; have hfz26_1 := blk_frozen BK138.out 1; have hfz26_2 := blk_frozen BK138.out 2; have hfz26_3 := blk_frozen BK138.out 3; have hfz26_4 := blk_frozen BK138.out 4; have hfz26_5 := blk_frozen BK138.out 5))
                        (try simp only [Act.put, List.setIfInBounds_toArray, List.set_cons_zero, List.set_cons_succ])
                        go_cut [54] (fun v54 wc => ∃ (kq : Nat) (x54_22 : Bool), v54 = .bool x54_22 ∧ Aside0 (rta_Next.j2 kq a1 a2 x9_2 x10_2 l0 (l0.length : Int) x38_2 x54_22 ((rd_T41 l0 a1).f0) ((rd_T41 l0 a1).f1) ((rd_T41 l0 a1).f2) ((rd_T41 l0 a1).f3) ((rd_T41 l0 a1).f4) ((rd_T41 l0 a1).f5) ((rd_T41 l0 x38_2).f0) ((rd_T41 l0 x38_2).f1) ((rd_T41 l0 x38_2).f2) ((rd_T41 l0 x38_2).f3) ((rd_T41 l0 x38_2).f4) ((rd_T41 l0 x38_2).f5) = some (r1, r2)) ∧ Aside0 (kq ≤ k2) ∧ Aside0 (wc.heap[gb131]? = some (.cells #[.int .i64 ((rd_T41 l0 a1).f0), .int .i64 ((rd_T41 l0 a1).f1), .int .i64 ((rd_T41 l0 a1).f2), .int .i64 ((rd_T41 l0 a1).f3), .int .i64 ((rd_T41 l0 a1).f4), .int .i64 ((rd_T41 l0 a1).f5)] 41 (0, 0))) ∧ Aside0 (wc.heap[gb138]? = some (.cells #[.int .i64 ((rd_T41 l0 x38_2).f0), .int .i64 ((rd_T41 l0 x38_2).f1), .int .i64 ((rd_T41 l0 x38_2).f2), .int .i64 ((rd_T41 l0 x38_2).f3), .int .i64 ((rd_T41 l0 x38_2).f4), .int .i64 ((rd_T41 l0 x38_2).f5)] 41 (0, 0))) ∧ Aside0 (Below w.heap.size w wc))
                        case first =>
                          have H := HC23.out
                          clear HC23
                          by_cases c27 : x38_2 = a1
                          · rw [if_pos c27] at H
                            have c27b0 : (x38_2 == a1) = true := beq_iff_eq.mpr c27
                            have c27b1 : (x38_2 != a1) = false := bne_eq_false_iff_eq.mpr c27
                            clear c27
                            (first | rw [c27b0] | (simp only [i64_w, i32_w]; rw [c27b0]) | skip)
                            have H' := Aside0.mk H
                            clear H
                            go_wp2
                            go_meet
                            case rel => exact ⟨_, (true), (by first | rfl | (simp; done) | (simp [*]; done)), H', ⟨by have := HJ3.out; have := HK2.out; first | omega | exact Nat.le_refl _⟩, ⟨by (with_reducible repeat (first | refine blk_drewN ?_ _ | refine blk_drew ?_ | refine blk_alloc ?_ _)); refine blk_far ?_ NB131_138.out _; (with_reducible repeat (first | refine blk_drewN ?_ _ | refine blk_drew ?_ | refine blk_alloc ?_ _)); refine blk_far ?_ NB131_138.out _; (with_reducible repeat (first | refine blk_drewN ?_ _ | refine blk_drew ?_ | refine blk_alloc ?_ _)); refine blk_far ?_ NB131_138.out _; (with_reducible repeat (first | refine blk_drewN ?_ _ | refine blk_drew ?_ | refine blk_alloc ?_ _)); refine blk_far ?_ NB131_138.out _; (with_reducible repeat (first | refine blk_drewN ?_ _ | refine blk_drew ?_ | refine blk_alloc ?_ _)); refine blk_far ?_ NB131_138.out _; (with_reducible repeat (first | refine blk_drewN ?_ _ | refine blk_drew ?_ | refine blk_alloc ?_ _)); refine blk_far ?_ NB131_138.out _; (with_reducible repeat (first | refine blk_drewN ?_ _ | refine blk_drew ?_ | refine blk_alloc ?_ _)); exact BK131.out⟩, ⟨by (with_reducible repeat (first | refine blk_drewN ?_ _ | refine blk_drew ?_ | refine blk_alloc ?_ _)); refine blk_put (cs := #[.int .i64 ((rd_T41 l0 x38_2).f0), .int .i64 ((rd_T41 l0 x38_2).f1), .int .i64 ((rd_T41 l0 x38_2).f2), .int .i64 ((rd_T41 l0 x38_2).f3), .int .i64 ((rd_T41 l0 x38_2).f4), .int .i64 0]) ?_ 5 _ rfl; (with_reducible repeat (first | refine blk_drewN ?_ _ | refine blk_drew ?_ | refine blk_alloc ?_ _)); refine blk_put (cs := #[.int .i64 ((rd_T41 l0 x38_2).f0), .int .i64 ((rd_T41 l0 x38_2).f1), .int .i64 ((rd_T41 l0 x38_2).f2), .int .i64 ((rd_T41 l0 x38_2).f3), .int .i64 0, .int .i64 0]) ?_ 4 _ rfl; (with_reducible repeat (first | refine blk_drewN ?_ _ | refine blk_drew ?_ | refine blk_alloc ?_ _)); refine blk_put (cs := #[.int .i64 ((rd_T41 l0 x38_2).f0), .int .i64 ((rd_T41 l0 x38_2).f1), .int .i64 ((rd_T41 l0 x38_2).f2), .int .i64 0, .int .i64 0, .int .i64 0]) ?_ 3 _ rfl; (with_reducible repeat (first | refine blk_drewN ?_ _ | refine blk_drew ?_ | refine blk_alloc ?_ _)); refine blk_put (cs := #[.int .i64 ((rd_T41 l0 x38_2).f0), .int .i64 ((rd_T41 l0 x38_2).f1), .int .i64 0, .int .i64 0, .int .i64 0, .int .i64 0]) ?_ 2 _ rfl; (with_reducible repeat (first | refine blk_drewN ?_ _ | refine blk_drew ?_ | refine blk_alloc ?_ _)); refine blk_put (cs := #[.int .i64 ((rd_T41 l0 x38_2).f0), .int .i64 0, .int .i64 0, .int .i64 0, .int .i64 0, .int .i64 0]) ?_ 1 _ rfl; (with_reducible repeat (first | refine blk_drewN ?_ _ | refine blk_drew ?_ | refine blk_alloc ?_ _)); refine blk_put (cs := #[.int .i64 0, .int .i64 0, .int .i64 0, .int .i64 0, .int .i64 0, .int .i64 0]) ?_ 0 _ rfl; (with_reducible repeat (first | refine blk_drewN ?_ _ | refine blk_drew ?_ | refine blk_alloc ?_ _)); exact BK138.out⟩, ⟨by repeat (first | (with_reducible first | exact HB.out | apply below_alloc | apply pw_below_drewN | apply below_drew1 | refine below_set ?_ GE131.out | refine below_set ?_ GE138.out) | exact HB.out)⟩⟩
                          · rw [if_neg c27] at H
                            have c27b0 : (x38_2 == a1) = false := beq_eq_false_iff_ne.mpr c27
                            have c27b1 : (x38_2 != a1) = true := bne_iff_ne.mpr c27
                            (first | rw [c27b0] | (simp only [i64_w, i32_w]; rw [c27b0]) | skip)
                            have H' := Aside0.mk H
                            clear H
                            have hnb28 := NB138_131.out
                            have hnc28 := NB131_138.out
                            have hcz29_0 : w24.cell? ⟨gb138, 0, none⟩ = some (.int .i64 0) := (blk_cell BK138.out 0).trans rfl
                            have hcz29_1 : w24.cell? ⟨gb138, 1, none⟩ = some (.int .i64 0) := (blk_cell BK138.out 1).trans rfl
                            have hcz29_2 : w24.cell? ⟨gb138, 2, none⟩ = some (.int .i64 0) := (blk_cell BK138.out 2).trans rfl
                            have hcz29_3 : w24.cell? ⟨gb138, 3, none⟩ = some (.int .i64 0) := (blk_cell BK138.out 3).trans rfl
                            have hcz29_4 : w24.cell? ⟨gb138, 4, none⟩ = some (.int .i64 0) := (blk_cell BK138.out 4).trans rfl
                            have hcz29_5 : w24.cell? ⟨gb138, 5, none⟩ = some (.int .i64 0) := (blk_cell BK138.out 5).trans rfl
                            have hfz29_0 := blk_frozen BK138.out 0
                            have hfz29_1 := blk_frozen BK138.out 1
                            have hfz29_2 := blk_frozen BK138.out 2
                            have hfz29_3 := blk_frozen BK138.out 3
                            have hfz29_4 := blk_frozen BK138.out 4
                            have hfz29_5 := blk_frozen BK138.out 5
                            have hcz30_0 : w24.cell? ⟨gb131, 0, none⟩ = some (.int .i64 ((rd_T41 l0 a1).f0)) := (blk_cell BK131.out 0).trans rfl
                            have hcz30_1 : w24.cell? ⟨gb131, 1, none⟩ = some (.int .i64 ((rd_T41 l0 a1).f1)) := (blk_cell BK131.out 1).trans rfl
                            have hcz30_2 : w24.cell? ⟨gb131, 2, none⟩ = some (.int .i64 ((rd_T41 l0 a1).f2)) := (blk_cell BK131.out 2).trans rfl
                            have hcz30_3 : w24.cell? ⟨gb131, 3, none⟩ = some (.int .i64 ((rd_T41 l0 a1).f3)) := (blk_cell BK131.out 3).trans rfl
                            have hcz30_4 : w24.cell? ⟨gb131, 4, none⟩ = some (.int .i64 ((rd_T41 l0 a1).f4)) := (blk_cell BK131.out 4).trans rfl
                            have hcz30_5 : w24.cell? ⟨gb131, 5, none⟩ = some (.int .i64 ((rd_T41 l0 a1).f5)) := (blk_cell BK131.out 5).trans rfl
                            have hfz30_0 := blk_frozen BK131.out 0
                            have hfz30_1 := blk_frozen BK131.out 1
                            have hfz30_2 := blk_frozen BK131.out 2
                            have hfz30_3 := blk_frozen BK131.out 3
                            have hfz30_4 := blk_frozen BK131.out 4
                            have hfz30_5 := blk_frozen BK131.out 5
                            go_wp2
                            go_meet
                            case rel => exact ⟨_, (decide (((rd_T41 l0 x38_2).f5) < ((rd_T41 l0 a1).f5))), (by first | rfl | (simp; done) | (simp [*]; done)), H', ⟨by have := HJ3.out; have := HK2.out; first | omega | exact Nat.le_refl _⟩, ⟨by (with_reducible repeat (first | refine blk_drewN ?_ _ | refine blk_drew ?_ | refine blk_alloc ?_ _)); refine blk_far ?_ NB131_138.out _; (with_reducible repeat (first | refine blk_drewN ?_ _ | refine blk_drew ?_ | refine blk_alloc ?_ _)); refine blk_far ?_ NB131_138.out _; (with_reducible repeat (first | refine blk_drewN ?_ _ | refine blk_drew ?_ | refine blk_alloc ?_ _)); refine blk_far ?_ NB131_138.out _; (with_reducible repeat (first | refine blk_drewN ?_ _ | refine blk_drew ?_ | refine blk_alloc ?_ _)); refine blk_far ?_ NB131_138.out _; (with_reducible repeat (first | refine blk_drewN ?_ _ | refine blk_drew ?_ | refine blk_alloc ?_ _)); refine blk_far ?_ NB131_138.out _; (with_reducible repeat (first | refine blk_drewN ?_ _ | refine blk_drew ?_ | refine blk_alloc ?_ _)); refine blk_far ?_ NB131_138.out _; (with_reducible repeat (first | refine blk_drewN ?_ _ | refine blk_drew ?_ | refine blk_alloc ?_ _)); exact BK131.out⟩, ⟨by (with_reducible repeat (first | refine blk_drewN ?_ _ | refine blk_drew ?_ | refine blk_alloc ?_ _)); refine blk_put (cs := #[.int .i64 ((rd_T41 l0 x38_2).f0), .int .i64 ((rd_T41 l0 x38_2).f1), .int .i64 ((rd_T41 l0 x38_2).f2), .int .i64 ((rd_T41 l0 x38_2).f3), .int .i64 ((rd_T41 l0 x38_2).f4), .int .i64 0]) ?_ 5 _ rfl; (with_reducible repeat (first | refine blk_drewN ?_ _ | refine blk_drew ?_ | refine blk_alloc ?_ _)); refine blk_put (cs := #[.int .i64 ((rd_T41 l0 x38_2).f0), .int .i64 ((rd_T41 l0 x38_2).f1), .int .i64 ((rd_T41 l0 x38_2).f2), .int .i64 ((rd_T41 l0 x38_2).f3), .int .i64 0, .int .i64 0]) ?_ 4 _ rfl; (with_reducible repeat (first | refine blk_drewN ?_ _ | refine blk_drew ?_ | refine blk_alloc ?_ _)); refine blk_put (cs := #[.int .i64 ((rd_T41 l0 x38_2).f0), .int .i64 ((rd_T41 l0 x38_2).f1), .int .i64 ((rd_T41 l0 x38_2).f2), .int .i64 0, .int .i64 0, .int .i64 0]) ?_ 3 _ rfl; (with_reducible repeat (first | refine blk_drewN ?_ _ | refine blk_drew ?_ | refine blk_alloc ?_ _)); refine blk_put (cs := #[.int .i64 ((rd_T41 l0 x38_2).f0), .int .i64 ((rd_T41 l0 x38_2).f1), .int .i64 0, .int .i64 0, .int .i64 0, .int .i64 0]) ?_ 2 _ rfl; (with_reducible repeat (first | refine blk_drewN ?_ _ | refine blk_drew ?_ | refine blk_alloc ?_ _)); refine blk_put (cs := #[.int .i64 ((rd_T41 l0 x38_2).f0), .int .i64 0, .int .i64 0, .int .i64 0, .int .i64 0, .int .i64 0]) ?_ 1 _ rfl; (with_reducible repeat (first | refine blk_drewN ?_ _ | refine blk_drew ?_ | refine blk_alloc ?_ _)); refine blk_put (cs := #[.int .i64 0, .int .i64 0, .int .i64 0, .int .i64 0, .int .i64 0, .int .i64 0]) ?_ 0 _ rfl; (with_reducible repeat (first | refine blk_drewN ?_ _ | refine blk_drew ?_ | refine blk_alloc ?_ _)); exact BK138.out⟩, ⟨by repeat (first | (with_reducible first | exact HB.out | apply below_alloc | apply pw_below_drewN | apply below_drew1 | refine below_set ?_ GE131.out | refine below_set ?_ GE138.out) | exact HB.out)⟩⟩
                        case rest =>
                          clear HC23
                          try clear c1
                          try clear p1
                          try clear q1
                          try clear hx1
                          try clear c2
                          try clear p2
                          try clear c6
                          try clear c10
                          try clear c11
                          try clear c11b0
                          try clear c12
                          try clear c12b0
                          try clear p13
                          try clear q13
                          try clear hx13
                          try clear c19
                          try clear c19b0
                          try clear c20
                          try clear c20b0
                          try clear c21
                          try clear c21b0
                          try clear c22
                          try clear c22b0
                          try clear c22b1
                          try clear c23
                          try clear c25
                          try clear c27
                          try clear c27b0
                          try clear c27b1
                          try clear c28
                          try clear hcz15_0
                          try clear hcz15_1
                          try clear hcz15_2
                          try clear hcz15_3
                          try clear hcz15_4
                          try clear hcz15_5
                          try clear hcz26_0
                          try clear hcz26_1
                          try clear hcz26_2
                          try clear hcz26_3
                          try clear hcz26_4
                          try clear hcz26_5
                          try clear hcz29_0
                          try clear hcz29_1
                          try clear hcz29_2
                          try clear hcz29_3
                          try clear hcz29_4
                          try clear hcz29_5
                          try clear hcz30_0
                          try clear hcz30_1
                          try clear hcz30_2
                          try clear hcz30_3
                          try clear hcz30_4
                          try clear hcz30_5
                          try clear hfz15_0
                          try clear hfz15_1
                          try clear hfz15_2
                          try clear hfz15_3
                          try clear hfz15_4
                          try clear hfz15_5
                          try clear hfz26_0
                          try clear hfz26_1
                          try clear hfz26_2
                          try clear hfz26_3
                          try clear hfz26_4
                          try clear hfz26_5
                          try clear hfz29_0
                          try clear hfz29_1
                          try clear hfz29_2
                          try clear hfz29_3
                          try clear hfz29_4
                          try clear hfz29_5
                          try clear hfz30_0
                          try clear hfz30_1
                          try clear hfz30_2
                          try clear hfz30_3
                          try clear hfz30_4
                          try clear hfz30_5
                          try clear hx130_0
                          try clear hx130_1
                          try clear hx130_2
                          try clear hx130_3
                          try clear hx130_4
                          try clear hx130_5
                          try clear hx137_0
                          try clear hx137_1
                          try clear hx137_2
                          try clear hx137_3
                          try clear hx137_4
                          try clear hx137_5
                          try clear p1
                          try clear p13
                          try clear p130
                          try clear p137
                          try clear p2
                          try clear q1
                          try clear q13
                          try clear q130
                          try clear q137
                          obtain ⟨kq, x54_22, rfl, HA, HJ22, BK131, BK138, HB⟩ := hcut
                          cases kq with
                          | zero => exact absurd HA.out (by simp [rta_Next.j2])
                          | succ kj22 =>
                            have H := HA.out
                            clear HA
                            simp only [rta_Next.j2] at H
                            by_cases c31 : x54_22 = true
                            · subst c31
                              have H1 : (rta_Next.l0 kj22 a1 a2 x9_2 x10_2 l0 (l0.length : Int) (wrap64 (x38_2 + 1)) ((rd_T41 l0 a1).f0) ((rd_T41 l0 a1).f1) ((rd_T41 l0 a1).f2) ((rd_T41 l0 a1).f3) ((rd_T41 l0 a1).f4) ((rd_T41 l0 a1).f5)) = some (r1, r2) := by rw [if_pos rfl] at H; exact H
                              clear H
                              have H := H1
                              clear H1
                              have H' := Aside0.mk H
                              clear H
                              go_wp2
                              go_roundg kj22
                              case measure => have := HJ3.out; have := HK2.out; have := HJ22.out; omega
                              case rel => exact ⟨(x9_2), (x10_2), (wrap64 (x38_2 + 1)), (by first | rfl | (simp; done) | (simp [*]; done)), (by first | rfl | (simp; done) | (simp [*]; done)), (by first | rfl | (simp; done) | (simp [*]; done)), H', ⟨by have := HJ3.out; have := HK2.out; have := HJ22.out; omega⟩, ⟨by (with_reducible repeat (first | refine blk_drewN ?_ _ | refine blk_drew ?_ | refine blk_alloc ?_ _)); exact BK131.out⟩, ⟨by repeat (first | (with_reducible first | exact HB.out | apply below_alloc | apply pw_below_drewN | apply below_drew1 | refine below_set ?_ GE131.out | refine below_set ?_ GE138.out) | exact HB.out)⟩⟩
                            · replace c31 := Bool.eq_false_iff.mpr c31
                              subst c31
                              have H1 : ((rta_Row_adds.f kj22 ((rd_T41 l0 x38_2).f0) ((rd_T41 l0 x38_2).f1) ((rd_T41 l0 x38_2).f2) ((rd_T41 l0 x38_2).f3) ((rd_T41 l0 x38_2).f4) ((rd_T41 l0 x38_2).f5) a2 ((rd_T41 l0 a1).f5)).bind fun bt139 => (if bt139.2 = 0 then ((nat_Add.f kj22 (([x9_2, bt139.1] : List Int))).bind fun bt144 => (rta_Next.l0 kj22 a1 a2 bt144.1 bt144.2 l0 (l0.length : Int) (wrap64 (x38_2 + 1)) ((rd_T41 l0 a1).f0) ((rd_T41 l0 a1).f1) ((rd_T41 l0 a1).f2) ((rd_T41 l0 a1).f3) ((rd_T41 l0 a1).f4) ((rd_T41 l0 a1).f5))) else (rta_Next.l0 kj22 a1 a2 x9_2 bt139.2 l0 (l0.length : Int) (wrap64 (x38_2 + 1)) ((rd_T41 l0 a1).f0) ((rd_T41 l0 a1).f1) ((rd_T41 l0 a1).f2) ((rd_T41 l0 a1).f3) ((rd_T41 l0 a1).f4) ((rd_T41 l0 a1).f5)))) = some (r1, r2) := by rw [if_neg (show ¬ (false = true) by decide)] at H; exact H
                              clear H
                              have H := H1
                              clear H1
                              replace H := Option.bind_eq_some_iff.mp H
                              obtain ⟨⟨t139, t140⟩, A320, H⟩ := H
                              replace H : (if t140 = 0 then ((nat_Add.f kj22 (([x9_2, t139] : List Int))).bind fun bt144 => (rta_Next.l0 kj22 a1 a2 bt144.1 bt144.2 l0 (l0.length : Int) (wrap64 (x38_2 + 1)) ((rd_T41 l0 a1).f0) ((rd_T41 l0 a1).f1) ((rd_T41 l0 a1).f2) ((rd_T41 l0 a1).f3) ((rd_T41 l0 a1).f4) ((rd_T41 l0 a1).f5))) else (rta_Next.l0 kj22 a1 a2 x9_2 t140 l0 (l0.length : Int) (wrap64 (x38_2 + 1)) ((rd_T41 l0 a1).f0) ((rd_T41 l0 a1).f1) ((rd_T41 l0 a1).f2) ((rd_T41 l0 a1).f3) ((rd_T41 l0 a1).f4) ((rd_T41 l0 a1).f5))) = some (r1, r2) := H
                              have A32 := Aside0.mk A320
                              clear A320
                              by_cases c33 : t140 = 0
                              · rw [if_pos c33] at H
                                have c33b0 : (t140 == 0) = true := beq_iff_eq.mpr c33
                                have c33b1 : (t140 != 0) = false := bne_eq_false_iff_eq.mpr c33
                                clear c33
                                obtain ⟨y141, hy141⟩ : ∃ y_ : List Int, y_ = (([x9_2, t139] : List Int)) := ⟨_, rfl⟩
                                replace H : ((nat_Add.f kj22 y141).bind fun bt144 => (rta_Next.l0 kj22 a1 a2 bt144.1 bt144.2 l0 (l0.length : Int) (wrap64 (x38_2 + 1)) ((rd_T41 l0 a1).f0) ((rd_T41 l0 a1).f1) ((rd_T41 l0 a1).f2) ((rd_T41 l0 a1).f3) ((rd_T41 l0 a1).f4) ((rd_T41 l0 a1).f5))) = some (r1, r2) := by first | (rw [hy141]; with_reducible exact H) | (have H2_ := (Option.bind_some _ _).symm.trans H; rw [hy141]; with_reducible exact H2_) | (have H2_ := (Option.bind_some _ _).symm.trans H; with_reducible exact H2_) | with_reducible exact H | (rw [hy141]; exact H) | exact H
                                have Ny141 := Aside0.mk hy141
                                clear hy141
                                replace H := Option.bind_eq_some_iff.mp H
                                obtain ⟨⟨t144, t145⟩, A340, H⟩ := H
                                replace H : (rta_Next.l0 kj22 a1 a2 t144 t145 l0 (l0.length : Int) (wrap64 (x38_2 + 1)) ((rd_T41 l0 a1).f0) ((rd_T41 l0 a1).f1) ((rd_T41 l0 a1).f2) ((rd_T41 l0 a1).f3) ((rd_T41 l0 a1).f4) ((rd_T41 l0 a1).f5)) = some (r1, r2) := H
                                have A34 := Aside0.mk A340
                                clear A340
                                have H' := Aside0.mk H
                                clear H
                                have hnb35 := NB138_131.out
                                have hnc35 := NB131_138.out
                                have hcz36_0 : wc.cell? ⟨gb138, 0, none⟩ = some (.int .i64 ((rd_T41 l0 x38_2).f0)) := (blk_cell BK138.out 0).trans rfl
                                have hcz36_1 : wc.cell? ⟨gb138, 1, none⟩ = some (.int .i64 ((rd_T41 l0 x38_2).f1)) := (blk_cell BK138.out 1).trans rfl
                                have hcz36_2 : wc.cell? ⟨gb138, 2, none⟩ = some (.int .i64 ((rd_T41 l0 x38_2).f2)) := (blk_cell BK138.out 2).trans rfl
                                have hcz36_3 : wc.cell? ⟨gb138, 3, none⟩ = some (.int .i64 ((rd_T41 l0 x38_2).f3)) := (blk_cell BK138.out 3).trans rfl
                                have hcz36_4 : wc.cell? ⟨gb138, 4, none⟩ = some (.int .i64 ((rd_T41 l0 x38_2).f4)) := (blk_cell BK138.out 4).trans rfl
                                have hcz36_5 : wc.cell? ⟨gb138, 5, none⟩ = some (.int .i64 ((rd_T41 l0 x38_2).f5)) := (blk_cell BK138.out 5).trans rfl
                                have hfz36_0 := blk_frozen BK138.out 0
                                have hfz36_1 := blk_frozen BK138.out 1
                                have hfz36_2 := blk_frozen BK138.out 2
                                have hfz36_3 := blk_frozen BK138.out 3
                                have hfz36_4 := blk_frozen BK138.out 4
                                have hfz36_5 := blk_frozen BK138.out 5
                                have hcz37_0 : wc.cell? ⟨gb131, 0, none⟩ = some (.int .i64 ((rd_T41 l0 a1).f0)) := (blk_cell BK131.out 0).trans rfl
                                have hcz37_1 : wc.cell? ⟨gb131, 1, none⟩ = some (.int .i64 ((rd_T41 l0 a1).f1)) := (blk_cell BK131.out 1).trans rfl
                                have hcz37_2 : wc.cell? ⟨gb131, 2, none⟩ = some (.int .i64 ((rd_T41 l0 a1).f2)) := (blk_cell BK131.out 2).trans rfl
                                have hcz37_3 : wc.cell? ⟨gb131, 3, none⟩ = some (.int .i64 ((rd_T41 l0 a1).f3)) := (blk_cell BK131.out 3).trans rfl
                                have hcz37_4 : wc.cell? ⟨gb131, 4, none⟩ = some (.int .i64 ((rd_T41 l0 a1).f4)) := (blk_cell BK131.out 4).trans rfl
                                have hcz37_5 : wc.cell? ⟨gb131, 5, none⟩ = some (.int .i64 ((rd_T41 l0 a1).f5)) := (blk_cell BK131.out 5).trans rfl
                                have hfz37_0 := blk_frozen BK131.out 0
                                have hfz37_1 := blk_frozen BK131.out 1
                                have hfz37_2 := blk_frozen BK131.out 2
                                have hfz37_3 := blk_frozen BK131.out 3
                                have hfz37_4 := blk_frozen BK131.out 4
                                have hfz37_5 := blk_frozen BK131.out 5
                                go_wp2_with (first | ((with_reducible refine gate_callee (f := 24) rfl ?_); refine goesL_ (some 60) rfl rfl Try.func24 (by kernel_rfl) rfl #[.agg #[.int .i64 ((rd_T41 l0 x38_2).f0), .int .i64 ((rd_T41 l0 x38_2).f1), .int .i64 ((rd_T41 l0 x38_2).f2), .int .i64 ((rd_T41 l0 x38_2).f3), .int .i64 ((rd_T41 l0 x38_2).f4), .int .i64 ((rd_T41 l0 x38_2).f5)], .int .i64 a2, .int .i64 ((rd_T41 l0 a1).f5)] rfl (by (try simp only [List.map_toArray, List.map_cons, List.map_nil]); first | done | rfl | (simp only [List.length_drop, List.length_take]; rfl)) ?_; (with_reducible refine (rta_Row_adds.calls kj22 ((rd_T41 l0 x38_2).f0) ((rd_T41 l0 x38_2).f1) ((rd_T41 l0 x38_2).f2) ((rd_T41 l0 x38_2).f3) ((rd_T41 l0 x38_2).f4) ((rd_T41 l0 x38_2).f5) a2 ((rd_T41 l0 a1).f5) t139 t140 _ A32.out).mono ?_); rintro e w38 ⟨rfl, hb⟩; refine ⟨_, rfl, ?_⟩; have n0_ := Aside0.mk (blk_below (g := gb131) (o := .cells #[.int .i64 ((rd_T41 l0 a1).f0), .int .i64 ((rd_T41 l0 a1).f1), .int .i64 ((rd_T41 l0 a1).f2), .int .i64 ((rd_T41 l0 a1).f3), .int .i64 ((rd_T41 l0 a1).f4), .int .i64 ((rd_T41 l0 a1).f5)] 41 (0, 0)) (by (with_reducible repeat (first | refine blk_drewN ?_ _ | refine blk_drew ?_ | refine blk_alloc ?_ _)); exact BK131.out) hb); have n1_ := Aside0.mk (blk_below (g := gb138) (o := .cells #[.int .i64 ((rd_T41 l0 x38_2).f0), .int .i64 ((rd_T41 l0 x38_2).f1), .int .i64 ((rd_T41 l0 x38_2).f2), .int .i64 ((rd_T41 l0 x38_2).f3), .int .i64 ((rd_T41 l0 x38_2).f4), .int .i64 ((rd_T41 l0 x38_2).f5)] 41 (0, 0)) (by (with_reducible repeat (first | refine blk_drewN ?_ _ | refine blk_drew ?_ | refine blk_alloc ?_ _)); exact BK138.out) hb); have n2_ := Aside0.mk (below_step (by repeat (first | (with_reducible first | exact HB.out | apply below_alloc | apply pw_below_drewN | apply below_drew1 | refine below_set ?_ GE131.out | refine below_set ?_ GE138.out) | exact HB.out)) hb); clear BK131; clear BK138; clear HB; have BK131 := n0_; have BK138 := n1_; have HB := n2_; clear n0_ n1_ n2_; (try clear hb); (try clear hb2); (try clear hk); (try clear hi)) | ((with_reducible refine gate_dst (N := 68) rfl ?_); refine Kd.R_lit (Kd.int .i64) _ 3 ?hg (N := 68) ?hd (xs := ([x9_2, t139] : List Int)) (inner := [.int .i64 x9_2, .int .i64 t139]) (ok := fun _ => True) (okp := fun _ => True) ?hr ?hp (fun _ hk => hk) trivial (Below.refl _ _) (Nat.le_refl _) (by simp) ?_; (case hd => rfl); (case hg => rfl); (case hr => first | (go_simp; done) | (go_simp; rfl)); (case hp => exact (Reps.one (show Kd.M (Kd.int .i64) _ _ _ x9_2 [.int .i64 x9_2] from rfl) (Reps.one (show Kd.M (Kd.int .i64) _ _ _ t139 [.int .i64 t139] from rfl) (Reps.none _ _)))); intro v142 w39 ho40 hb hg_ hnew_; clear hg_ hnew_; (first | rw [← Ny141.out] at ho40 | (simp only [Int.reduceToNat] at ho40; rw [← Ny141.out] at ho40)); have n0_ := Aside0.mk (Kd.R_lower ho40 (below_size (by repeat (first | (with_reducible first | exact HB.out | apply below_alloc | apply pw_below_drewN | apply below_drew1 | refine below_set ?_ GE131.out | refine below_set ?_ GE138.out) | exact HB.out)))); have n1_ := Aside0.mk (blk_below (g := gb131) (o := .cells #[.int .i64 ((rd_T41 l0 a1).f0), .int .i64 ((rd_T41 l0 a1).f1), .int .i64 ((rd_T41 l0 a1).f2), .int .i64 ((rd_T41 l0 a1).f3), .int .i64 ((rd_T41 l0 a1).f4), .int .i64 ((rd_T41 l0 a1).f5)] 41 (0, 0)) (by (with_reducible repeat (first | refine blk_drewN ?_ _ | refine blk_drew ?_ | refine blk_alloc ?_ _)); exact BK131.out) hb); have n2_ := Aside0.mk (blk_below (g := gb138) (o := .cells #[.int .i64 ((rd_T41 l0 x38_2).f0), .int .i64 ((rd_T41 l0 x38_2).f1), .int .i64 ((rd_T41 l0 x38_2).f2), .int .i64 ((rd_T41 l0 x38_2).f3), .int .i64 ((rd_T41 l0 x38_2).f4), .int .i64 ((rd_T41 l0 x38_2).f5)] 41 (0, 0)) (by (with_reducible repeat (first | refine blk_drewN ?_ _ | refine blk_drew ?_ | refine blk_alloc ?_ _)); exact BK138.out) hb); have n3_ := Aside0.mk (below_step (by repeat (first | (with_reducible first | exact HB.out | apply below_alloc | apply pw_below_drewN | apply below_drew1 | refine below_set ?_ GE131.out | refine below_set ?_ GE138.out) | exact HB.out)) hb); clear BK131; clear BK138; clear HB; have HO143 := n0_; have BK131 := n1_; have BK138 := n2_; have HB := n3_; clear n0_ n1_ n2_ n3_; clear hb ho40; obtain ⟨Ao41, co41, eo41⟩ := Kd.R_slice HO143.out; subst eo41) | ((with_reducible refine gate_callee (f := 23) rfl ?_); refine goesL_ (some 69) rfl rfl Try.func23 (by kernel_rfl) rfl #[.slice Ao41 y141.length co41] rfl (by (try simp only [List.map_toArray, List.map_cons, List.map_nil]); first | done | rfl | (simp only [List.length_drop, List.length_take]; rfl)) ?_; (with_reducible refine (nat_Add.calls kj22 _ _ y141 t144 t145 _ ?side1 ?side2 A34.out).mono ?_); (case side1 => repeat (first | exact (Kd.R_reads' HO143.out).2.2 | (with_reducible refine Kd.C_alloc ?_ _) | (with_reducible refine Kd.C_drewN ?_ _) | (with_reducible refine Kd.C_drew ?_))); (case side2 => exact (Kd.R_reads' HO143.out).2.1); rintro e w' ⟨rfl, ⟨nd, rfl⟩⟩; refine ⟨_, rfl, ?_⟩))
                                go_roundg kj22
                                case measure => have := HJ3.out; have := HK2.out; have := HJ22.out; omega
                                case rel => exact ⟨(t144), (t145), (wrap64 (x38_2 + 1)), (by first | rfl | (simp; done) | (simp [*]; done)), (by first | rfl | (simp; done) | (simp [*]; done)), (by first | rfl | (simp; done) | (simp [*]; done)), H', ⟨by have := HJ3.out; have := HK2.out; have := HJ22.out; omega⟩, ⟨by (with_reducible repeat (first | refine blk_drewN ?_ _ | refine blk_drew ?_ | refine blk_alloc ?_ _)); exact BK131.out⟩, ⟨by repeat (first | (with_reducible first | exact HB.out | apply below_alloc | apply pw_below_drewN | apply below_drew1 | refine below_set ?_ GE131.out | refine below_set ?_ GE138.out) | exact HB.out)⟩⟩
                              · rw [if_neg c33] at H
                                have c33b0 : (t140 == 0) = false := beq_eq_false_iff_ne.mpr c33
                                have c33b1 : (t140 != 0) = true := bne_iff_ne.mpr c33
                                have H' := Aside0.mk H
                                clear H
                                have hnb42 := NB138_131.out
                                have hnc42 := NB131_138.out
                                have hcz43_0 : wc.cell? ⟨gb138, 0, none⟩ = some (.int .i64 ((rd_T41 l0 x38_2).f0)) := (blk_cell BK138.out 0).trans rfl
                                have hcz43_1 : wc.cell? ⟨gb138, 1, none⟩ = some (.int .i64 ((rd_T41 l0 x38_2).f1)) := (blk_cell BK138.out 1).trans rfl
                                have hcz43_2 : wc.cell? ⟨gb138, 2, none⟩ = some (.int .i64 ((rd_T41 l0 x38_2).f2)) := (blk_cell BK138.out 2).trans rfl
                                have hcz43_3 : wc.cell? ⟨gb138, 3, none⟩ = some (.int .i64 ((rd_T41 l0 x38_2).f3)) := (blk_cell BK138.out 3).trans rfl
                                have hcz43_4 : wc.cell? ⟨gb138, 4, none⟩ = some (.int .i64 ((rd_T41 l0 x38_2).f4)) := (blk_cell BK138.out 4).trans rfl
                                have hcz43_5 : wc.cell? ⟨gb138, 5, none⟩ = some (.int .i64 ((rd_T41 l0 x38_2).f5)) := (blk_cell BK138.out 5).trans rfl
                                have hfz43_0 := blk_frozen BK138.out 0
                                have hfz43_1 := blk_frozen BK138.out 1
                                have hfz43_2 := blk_frozen BK138.out 2
                                have hfz43_3 := blk_frozen BK138.out 3
                                have hfz43_4 := blk_frozen BK138.out 4
                                have hfz43_5 := blk_frozen BK138.out 5
                                have hcz44_0 : wc.cell? ⟨gb131, 0, none⟩ = some (.int .i64 ((rd_T41 l0 a1).f0)) := (blk_cell BK131.out 0).trans rfl
                                have hcz44_1 : wc.cell? ⟨gb131, 1, none⟩ = some (.int .i64 ((rd_T41 l0 a1).f1)) := (blk_cell BK131.out 1).trans rfl
                                have hcz44_2 : wc.cell? ⟨gb131, 2, none⟩ = some (.int .i64 ((rd_T41 l0 a1).f2)) := (blk_cell BK131.out 2).trans rfl
                                have hcz44_3 : wc.cell? ⟨gb131, 3, none⟩ = some (.int .i64 ((rd_T41 l0 a1).f3)) := (blk_cell BK131.out 3).trans rfl
                                have hcz44_4 : wc.cell? ⟨gb131, 4, none⟩ = some (.int .i64 ((rd_T41 l0 a1).f4)) := (blk_cell BK131.out 4).trans rfl
                                have hcz44_5 : wc.cell? ⟨gb131, 5, none⟩ = some (.int .i64 ((rd_T41 l0 a1).f5)) := (blk_cell BK131.out 5).trans rfl
                                have hfz44_0 := blk_frozen BK131.out 0
                                have hfz44_1 := blk_frozen BK131.out 1
                                have hfz44_2 := blk_frozen BK131.out 2
                                have hfz44_3 := blk_frozen BK131.out 3
                                have hfz44_4 := blk_frozen BK131.out 4
                                have hfz44_5 := blk_frozen BK131.out 5
                                go_wp2_with (first | ((with_reducible refine gate_callee (f := 24) rfl ?_); refine goesL_ (some 60) rfl rfl Try.func24 (by kernel_rfl) rfl #[.agg #[.int .i64 ((rd_T41 l0 x38_2).f0), .int .i64 ((rd_T41 l0 x38_2).f1), .int .i64 ((rd_T41 l0 x38_2).f2), .int .i64 ((rd_T41 l0 x38_2).f3), .int .i64 ((rd_T41 l0 x38_2).f4), .int .i64 ((rd_T41 l0 x38_2).f5)], .int .i64 a2, .int .i64 ((rd_T41 l0 a1).f5)] rfl (by (try simp only [List.map_toArray, List.map_cons, List.map_nil]); first | done | rfl | (simp only [List.length_drop, List.length_take]; rfl)) ?_; (with_reducible refine (rta_Row_adds.calls kj22 ((rd_T41 l0 x38_2).f0) ((rd_T41 l0 x38_2).f1) ((rd_T41 l0 x38_2).f2) ((rd_T41 l0 x38_2).f3) ((rd_T41 l0 x38_2).f4) ((rd_T41 l0 x38_2).f5) a2 ((rd_T41 l0 a1).f5) t139 t140 _ A32.out).mono ?_); rintro e w45 ⟨rfl, hb⟩; refine ⟨_, rfl, ?_⟩; have n0_ := Aside0.mk (blk_below (g := gb131) (o := .cells #[.int .i64 ((rd_T41 l0 a1).f0), .int .i64 ((rd_T41 l0 a1).f1), .int .i64 ((rd_T41 l0 a1).f2), .int .i64 ((rd_T41 l0 a1).f3), .int .i64 ((rd_T41 l0 a1).f4), .int .i64 ((rd_T41 l0 a1).f5)] 41 (0, 0)) (by (with_reducible repeat (first | refine blk_drewN ?_ _ | refine blk_drew ?_ | refine blk_alloc ?_ _)); exact BK131.out) hb); have n1_ := Aside0.mk (blk_below (g := gb138) (o := .cells #[.int .i64 ((rd_T41 l0 x38_2).f0), .int .i64 ((rd_T41 l0 x38_2).f1), .int .i64 ((rd_T41 l0 x38_2).f2), .int .i64 ((rd_T41 l0 x38_2).f3), .int .i64 ((rd_T41 l0 x38_2).f4), .int .i64 ((rd_T41 l0 x38_2).f5)] 41 (0, 0)) (by (with_reducible repeat (first | refine blk_drewN ?_ _ | refine blk_drew ?_ | refine blk_alloc ?_ _)); exact BK138.out) hb); have n2_ := Aside0.mk (below_step (by repeat (first | (with_reducible first | exact HB.out | apply below_alloc | apply pw_below_drewN | apply below_drew1 | refine below_set ?_ GE131.out | refine below_set ?_ GE138.out) | exact HB.out)) hb); clear BK131; clear BK138; clear HB; have BK131 := n0_; have BK138 := n1_; have HB := n2_; clear n0_ n1_ n2_; (try clear hb); (try clear hb2); (try clear hk); (try clear hi)))
                                go_roundg kj22
                                case measure => have := HJ3.out; have := HK2.out; have := HJ22.out; omega
                                case rel => exact ⟨(x9_2), (t140), (wrap64 (x38_2 + 1)), (by first | rfl | (simp; done) | (simp [*]; done)), (by first | rfl | (simp; done) | (simp [*]; done)), (by first | rfl | (simp; done) | (simp [*]; done)), H', ⟨by have := HJ3.out; have := HK2.out; have := HJ22.out; omega⟩, ⟨by (with_reducible repeat (first | refine blk_drewN ?_ _ | refine blk_drew ?_ | refine blk_alloc ?_ _)); exact BK131.out⟩, ⟨by repeat (first | (with_reducible first | exact HB.out | apply below_alloc | apply pw_below_drewN | apply below_drew1 | refine below_set ?_ GE131.out | refine below_set ?_ GE138.out) | exact HB.out)⟩⟩
                      · rw [if_neg c22] at H
                        have c22b0 : (x10_2 == 0) = false := beq_eq_false_iff_ne.mpr c22
                        have c22b1 : (x10_2 != 0) = true := bne_iff_ne.mpr c22
                        simp only [Option.some.injEq, Prod.mk.injEq] at H
                        obtain ⟨rfl, rfl⟩ := H
                        have p137 : 0 ≤ (x38_2 : Int) := of_decide_eq_true (by first | (with_reducible assumption) | assumption)
                        have q137 : x38_2 < (l0.length : Int) := of_decide_eq_true (by first | (with_reducible assumption) | assumption)
                        obtain ⟨ad137, e137, hx137_0, hx137_1, hx137_2, hx137_3, hx137_4, hx137_5⟩ := at_T41 HR0.out x38_2 p137 q137
                        obtain rfl : ad130 = ad137 := (by injection e137)
                        replace hx137_0 := (HB.out.cell (World.block_lt_of_cell? w _ hx137_0)).trans hx137_0
                        replace hx137_1 := (HB.out.cell (World.block_lt_of_cell? w _ hx137_1)).trans hx137_1
                        replace hx137_2 := (HB.out.cell (World.block_lt_of_cell? w _ hx137_2)).trans hx137_2
                        replace hx137_3 := (HB.out.cell (World.block_lt_of_cell? w _ hx137_3)).trans hx137_3
                        replace hx137_4 := (HB.out.cell (World.block_lt_of_cell? w _ hx137_4)).trans hx137_4
                        replace hx137_5 := (HB.out.cell (World.block_lt_of_cell? w _ hx137_5)).trans hx137_5
                        replace p137 := eq_true p137
                        replace q137 := eq_true q137
                        go_wp2_with (first | ((with_reducible refine gate_dst (N := 12) rfl ?_); refine box_event ?hg (N := 12) ?hd (cs := #[.int .i64 0, .int .i64 0, .int .i64 0, .int .i64 0, .int .i64 0, .int .i64 0]) (t := 41) ?hr ?_; (case hd => rfl); (case hg => rfl); (case hr => first | (go_simp; done) | (go_simp; rfl)); intro gb138 hg w46 hbox hb; have n0_ := Aside0.mk (blk_below (g := gb131) (o := .cells #[.int .i64 ((rd_T41 l0 a1).f0), .int .i64 ((rd_T41 l0 a1).f1), .int .i64 ((rd_T41 l0 a1).f2), .int .i64 ((rd_T41 l0 a1).f3), .int .i64 ((rd_T41 l0 a1).f4), .int .i64 ((rd_T41 l0 a1).f5)] 41 (0, 0)) (by (with_reducible repeat (first | refine blk_drewN ?_ _ | refine blk_drew ?_ | refine blk_alloc ?_ _)); exact BK131.out) hb); have n1_ := Aside0.mk (below_step (by repeat (first | (with_reducible first | exact HB.out | apply below_alloc | apply pw_below_drewN | apply below_drew1 | refine below_set ?_ GE131.out) | exact HB.out)) hb); have n2_ := Aside0.mk (hbox); have n3_ := Aside0.mk ((by rw [hg]; exact (below_size (by repeat (first | (with_reducible first | exact HB.out | apply below_alloc | apply pw_below_drewN | apply below_drew1 | refine below_set ?_ GE131.out) | exact HB.out))) : w.heap.size ≤ gb138)); have n4_ := Aside0.mk ((by rw [hg]; exact (below_size (by repeat (first | (with_reducible first | exact HB.out | apply below_alloc | apply pw_below_drewN | apply below_drew1 | refine below_set ?_ GE131.out) | exact HB.out))) : w.heap.size ≤ gb138)); have n5_ := Aside0.mk ((by rw [hg]; exact Nat.ne_of_lt (blk_lt (g := gb131) (o := .cells #[.int .i64 ((rd_T41 l0 a1).f0), .int .i64 ((rd_T41 l0 a1).f1), .int .i64 ((rd_T41 l0 a1).f2), .int .i64 ((rd_T41 l0 a1).f3), .int .i64 ((rd_T41 l0 a1).f4), .int .i64 ((rd_T41 l0 a1).f5)] 41 (0, 0)) (by (with_reducible repeat (first | refine blk_drewN ?_ _ | refine blk_drew ?_ | refine blk_alloc ?_ _)); exact BK131.out)) : gb131 ≠ gb138)); have n6_ := Aside0.mk ((by rw [hg]; exact Nat.ne_of_gt (blk_lt (g := gb131) (o := .cells #[.int .i64 ((rd_T41 l0 a1).f0), .int .i64 ((rd_T41 l0 a1).f1), .int .i64 ((rd_T41 l0 a1).f2), .int .i64 ((rd_T41 l0 a1).f3), .int .i64 ((rd_T41 l0 a1).f4), .int .i64 ((rd_T41 l0 a1).f5)] 41 (0, 0)) (by (with_reducible repeat (first | refine blk_drewN ?_ _ | refine blk_drew ?_ | refine blk_alloc ?_ _)); exact BK131.out)) : gb138 ≠ gb131)); clear BK131; clear HB; have BK131 := n0_; have HB := n1_; have BK138 := n2_; have GW138 := n3_; have GE138 := n4_; have NB131_138 := n5_; have NB138_131 := n6_; clear n0_ n1_ n2_ n3_ n4_ n5_ n6_; clear hb hbox hg; have hnb47 := NB138_131.out; have hnc47 := NB131_138.out; have hcz48_0 : w46.cell? ⟨gb138, 0, none⟩ = some (.int .i64 0) := (blk_cell BK138.out 0).trans rfl; have hcz48_1 : w46.cell? ⟨gb138, 1, none⟩ = some (.int .i64 0) := (blk_cell BK138.out 1).trans rfl; have hcz48_2 : w46.cell? ⟨gb138, 2, none⟩ = some (.int .i64 0) := (blk_cell BK138.out 2).trans rfl; have hcz48_3 : w46.cell? ⟨gb138, 3, none⟩ = some (.int .i64 0) := (blk_cell BK138.out 3).trans rfl; have hcz48_4 : w46.cell? ⟨gb138, 4, none⟩ = some (.int .i64 0) := (blk_cell BK138.out 4).trans rfl; have hcz48_5 : w46.cell? ⟨gb138, 5, none⟩ = some (.int .i64 0) := (blk_cell BK138.out 5).trans rfl; have hfz48_0 := blk_frozen BK138.out 0; have hfz48_1 := blk_frozen BK138.out 1; have hfz48_2 := blk_frozen BK138.out 2; have hfz48_3 := blk_frozen BK138.out 3; have hfz48_4 := blk_frozen BK138.out 4; have hfz48_5 := blk_frozen BK138.out 5))
                        go_ret2
                        exact ⟨by first | rfl | (simp [errW_none, errW_some] <;> rfl) | (simp [*, errW_none, errW_some] <;> rfl), by repeat (first | (with_reducible first | exact HB.out | apply below_alloc | apply pw_below_drewN | apply below_drew1 | refine below_set ?_ GE131.out | refine below_set ?_ GE138.out) | exact HB.out)⟩
                    · rw [if_neg c21] at H
                      exact absurd H (by simp)
                  · rw [if_neg c20] at H
                    exact absurd H (by simp)
                · rw [if_neg c19] at H
                  have c19b0 : decide (x38_2 < (l0.length : Int)) = false := decide_eq_false c19
                  clear c19
                  by_cases c49 : x10_2 = 0
                  · rw [if_pos c49] at H
                    have c49b0 : (x10_2 == 0) = true := beq_iff_eq.mpr c49
                    have c49b1 : (x10_2 != 0) = false := bne_eq_false_iff_eq.mpr c49
                    clear c49
                    simp only [Option.some.injEq, Prod.mk.injEq] at H
                    obtain ⟨rfl, rfl⟩ := H
                    go_wp2
                    go_ret2
                    exact ⟨by first | rfl | (simp [errW_none, errW_some] <;> rfl) | (simp [*, errW_none, errW_some] <;> rfl), by repeat (first | (with_reducible first | exact HB.out | apply below_alloc | apply pw_below_drewN | apply below_drew1 | refine below_set ?_ GE131.out) | exact HB.out)⟩
                  · rw [if_neg c49] at H
                    have c49b0 : (x10_2 == 0) = false := beq_eq_false_iff_ne.mpr c49
                    have c49b1 : (x10_2 != 0) = true := bne_iff_ne.mpr c49
                    simp only [Option.some.injEq, Prod.mk.injEq] at H
                    obtain ⟨rfl, rfl⟩ := H
                    go_wp2
                    go_ret2
                    exact ⟨by first | rfl | (simp [errW_none, errW_some] <;> rfl) | (simp [*, errW_none, errW_some] <;> rfl), by repeat (first | (with_reducible first | exact HB.out | apply below_alloc | apply pw_below_drewN | apply below_drew1 | refine below_set ?_ GE131.out) | exact HB.out)⟩
          · rw [if_neg c12] at H
            exact absurd H (by simp)
        · rw [if_neg c11] at H
          exact absurd H (by simp)

end Go.Proofs.Ytpjobjgfigplhaa.Print
