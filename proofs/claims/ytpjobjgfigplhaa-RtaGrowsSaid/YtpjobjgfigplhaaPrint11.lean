/- WRITTEN BY A PROGRAM OF THE SESSION out of the translation: functions in plain Lean, and that the calls come to just these answers; Lean checks every line. -/
import Derived.Test.YtpjobjgfigplhaaPrint0
import Derived.Test.YtpjobjgfigplhaaPrint4
import Derived.Test.YtpjobjgfigplhaaPrint10
namespace Go.Proofs.Ytpjobjgfigplhaa.Print
open Go.RowKit Go.Proofs.YtpjobjgfigplhaaW.PrintWords Go.Proofs.YtpjobjgfigplhaaW.PrintLast Go.Proofs.YtpjobjgfigplhaaW.PrintMore
attribute [local go_sem] max2_int min2_int max_two min_two max_three min_three max_four min_four   -- for this text's walks alone
set_option linter.unusedVariables false
set_option linter.unusedSimpArgs false

/-! ### rta_Response: function 14 (by hand) -/
def rta_Response.l0 : Nat → List (S41) → Int → Int → Option (Int × Int)
  | 0, _, _, _ => none
  | k + 1, l, i, w => (rta_Next.f k l i w).bind fun bt => if bt.2 = 0 then (if bt.1 > (rd_T41 l i).f3 then some (0, 13) else (if (rd_T41 l i).f4 > wrap64 ((rd_T41 l i).f3 - bt.1) then some (0, 13) else (if bt.1 = w then some (wrap64 ((rd_T41 l i).f4 + w), 0) else rta_Response.l0 k l i bt.1))) else some (0, bt.2)
def rta_Response.f (k : Nat) (l : List (S41)) (i : Int) : Option (Int × Int) := (rta_there.f k l i).bind fun t => if t = true then (if 0 ≤ i then (if i < (l.length : Int) then rta_Response.l0 k l i 0 else none) else none) else some (0, 1)
theorem rta_Response.mono_l : ∀ k, (∀ y0 y1 y2, LeO (rta_Response.l0 k y0 y1 y2) (rta_Response.l0 (k + 1) y0 y1 y2))
  | 0 => fun _ _ _ r h => by simp [rta_Response.l0] at h
  | k + 1 => by
    have ih0 := rta_Response.mono_l k
    intro y0 y1 y2
    unfold rta_Response.l0
    repeat' first
      | (with_reducible exact ih0 _ _ _)
      | (with_reducible exact rta_Next.mono _ _ _ _)
      | (with_reducible exact LeO.refl _)
      | (with_reducible exact LeO.none _)
      | (with_reducible refine LeO.ite ?_ ?_)
      | (with_reducible refine LeO.bind ?_ (fun _ => ?_))
theorem rta_Response.mono : ∀ a0 a1 k, LeO (rta_Response.f k a0 a1) (rta_Response.f (k + 1) a0 a1) := by
  intro a0 a1 k
  have ih0 := rta_Response.mono_l k
  unfold rta_Response.f
  repeat' first
    | (with_reducible exact ih0 _ _ _)
    | (with_reducible exact rta_there.mono _ _ _)
    | (with_reducible exact LeO.refl _)
    | (with_reducible exact LeO.none _)
    | (with_reducible refine LeO.ite ?_ ?_)
    | (with_reducible refine LeO.bind ?_ (fun _ => ?_))
set_option maxHeartbeats 4000000 in
set_option maxRecDepth 100000 in
theorem rta_Response.calls (k : Nat) (A0 : Option Addr) (c0 : Nat) (l0 : List (S41)) (a1 : Int) (r1 : Int) (r2 : Int) (w : World) (hr0 : Kd.C k41 w A0 l0.length l0) (hc0 : l0.length ≤ c0) (h : rta_Response.f k l0 a1 = some (r1, r2)) :
    Calls Try.prog 14 #[.slice A0 l0.length c0, .int .i64 a1] w fun e w' => e = .returned (.tuple #[.int .i64 r1, .int .i64 r2]) ∧ Below w.heap.size w w' := by
  have hu41 := Try.underlying41
  have HR0 := Aside0.mk hr0
  have HC0 := Aside0.mk hc0
  clear hr0 hc0
  have HB := Aside0.mk (Below.refl w.heap.size w)
  unfold rta_Response.f at h
  obtain ⟨t, A5, H⟩ := Option.bind_eq_some_iff.mp h
  clear h
  have A5 := Aside0.mk A5
  cases t with
  | false =>
    rw [if_neg (by decide)] at H
    simp only [Option.some.injEq, Prod.mk.injEq] at H
    obtain ⟨rfl, rfl⟩ := H
    go_enter Try.func14, Try.ntmps14
    go_wp2
    refine wp_scope_ghost 0 (fun _ _ _ => False) rfl ?_ (fun n a w h => h.elim)
    go_wp2_with (first | (go_at_call 21; (with_reducible refine (rta_there.calls k _ _ l0 a1 false _ ?side1 ?side2 A5.out).mono ?_); (case side1 => exact HR0.out); (case side2 => exact HC0.out); rintro e w8 ⟨rfl, hb⟩))
    simp only [Exit.jump]
    go_ret2
    exact ⟨rfl, hb⟩
  | true =>
    rw [if_pos rfl] at H
    have q0 : 0 ≤ a1 := by
      apply Classical.byContradiction
      intro hn
      rw [if_neg hn] at H
      cases H
    rw [if_pos q0] at H
    have q1 : a1 < (l0.length : Int) := by
      apply Classical.byContradiction
      intro hn
      rw [if_neg hn] at H
      cases H
    rw [if_pos q1] at H
    obtain ⟨ad, e, hx0, hx1, hx2, hx3, hx4, hx5⟩ := at_T41 HR0.out a1 q0 q1
    cases e
    have q0b := eq_true q0
    have q1b := eq_true q1
    go_enter Try.func14, Try.ntmps14
    go_wp2
    refine wp_scope_ghost2 0 (fun n a' w' => ∃ (gb : Nat) (wv : Int) (u8 u9 u10 u11 u12 u13 u14 u15 u16 u17 u18 u19 u20 u21 u22 u23 u24 u25 u26 u27 u28 u29 u30 u31 u32 u33 u34 u35 u36 u37 u38 u39 u40 u41 u42 u43 u44 u45 u46 u47 u48 u49 u50 u51 : Value), a' = { tmps := #[.slice (some ad) l0.length c0, .int .i64 a1, undef, undef, .int .i64 0, .int .i64 0, .pointer (some ⟨gb, 0, none⟩), .int .i64 wv, u8, u9, u10, u11, u12, u13, u14, u15, u16, u17, u18, u19, u20, u21, u22, u23, u24, u25, u26, u27, u28, u29, u30, u31, u32, u33, u34, u35, u36, u37, u38, u39, u40, u41, u42, u43, u44, u45, u46, u47, u48, u49, u50, u51], defers := [] } ∧ rta_Response.l0 n l0 a1 wv = some (r1, r2) ∧ w'.cell? ⟨gb, 3, none⟩ = some (.int .i64 (rd_T41 l0 a1).f3) ∧ w'.cell? ⟨gb, 4, none⟩ = some (.int .i64 (rd_T41 l0 a1).f4) ∧ Below w.heap.size w w') rfl ?_ ?_
    · rintro n a' w' ⟨gb, wv, u8, u9, u10, u11, u12, u13, u14, u15, u16, u17, u18, u19, u20, u21, u22, u23, u24, u25, u26, u27, u28, u29, u30, u31, u32, u33, u34, u35, u36, u37, u38, u39, u40, u41, u42, u43, u44, u45, u46, u47, u48, u49, u50, u51, rfl, hl, hd, hj, hb2⟩
      cases n with
      | zero => cases hl
      | succ n =>
        simp only [rta_Response.l0] at hl
        obtain ⟨⟨t1, t2⟩, A9, hl⟩ := Option.bind_eq_some_iff.mp hl
        have A9 := Aside0.mk A9
        have HB2 := Aside0.mk hb2
        simp only at hl
        by_cases c1 : t2 = 0
        · subst c1
          rw [if_pos rfl] at hl
          have c1b : ((0 : Int) != 0) = false := rfl
          by_cases c2 : t1 > (rd_T41 l0 a1).f3
          · rw [if_pos c2] at hl
            simp only [Option.some.injEq, Prod.mk.injEq] at hl
            obtain ⟨rfl, rfl⟩ := hl
            have c2b : decide ((rd_T41 l0 a1).f3 < t1) = true := decide_eq_true c2
            clear c2
            go_wp2_with (first | (go_at_call 12; (with_reducible refine (rta_Next.calls n _ _ l0 a1 wv t1 0 _ ?side1 ?side2 A9.out).mono ?_); (case side1 => exact (Kd.C_below HR0.out HB2.out)); (case side2 => exact HC0.out); rintro e w8 ⟨rfl, hb⟩; replace hd := (hb.cell (World.block_lt_of_cell? _ _ hd)).trans hd; replace hj := (hb.cell (World.block_lt_of_cell? _ _ hj)).trans hj))
            simp only [Exit.jump]
            go_ret2
            exact ⟨rfl, below_step HB2.out hb⟩
          · rw [if_neg c2] at hl
            have c2b : decide ((rd_T41 l0 a1).f3 < t1) = false := decide_eq_false c2
            clear c2
            by_cases c3 : (rd_T41 l0 a1).f4 > wrap64 ((rd_T41 l0 a1).f3 - t1)
            · rw [if_pos c3] at hl
              simp only [Option.some.injEq, Prod.mk.injEq] at hl
              obtain ⟨rfl, rfl⟩ := hl
              have c3b : decide (wrap64 ((rd_T41 l0 a1).f3 - t1) < (rd_T41 l0 a1).f4) = true := decide_eq_true c3
              clear c3
              go_wp2_with (first | (go_at_call 12; (with_reducible refine (rta_Next.calls n _ _ l0 a1 wv t1 0 _ ?side1 ?side2 A9.out).mono ?_); (case side1 => exact (Kd.C_below HR0.out HB2.out)); (case side2 => exact HC0.out); rintro e w8 ⟨rfl, hb⟩; replace hd := (hb.cell (World.block_lt_of_cell? _ _ hd)).trans hd; replace hj := (hb.cell (World.block_lt_of_cell? _ _ hj)).trans hj))
              simp only [Exit.jump]
              go_ret2
              exact ⟨rfl, below_step HB2.out hb⟩
            · rw [if_neg c3] at hl
              have c3b : decide (wrap64 ((rd_T41 l0 a1).f3 - t1) < (rd_T41 l0 a1).f4) = false := decide_eq_false c3
              clear c3
              by_cases c4 : t1 = wv
              · subst c4
                rw [if_pos rfl] at hl
                simp only [Option.some.injEq, Prod.mk.injEq] at hl
                obtain ⟨rfl, rfl⟩ := hl
                have c4b : (t1 != t1) = false := bne_self_eq_false t1
                go_wp2_with (first | (go_at_call 12; (with_reducible refine (rta_Next.calls n _ _ l0 a1 t1 t1 0 _ ?side1 ?side2 A9.out).mono ?_); (case side1 => exact (Kd.C_below HR0.out HB2.out)); (case side2 => exact HC0.out); rintro e w8 ⟨rfl, hb⟩; replace hd := (hb.cell (World.block_lt_of_cell? _ _ hd)).trans hd; replace hj := (hb.cell (World.block_lt_of_cell? _ _ hj)).trans hj))
                simp only [Exit.jump]
                go_ret2
                exact ⟨rfl, below_step HB2.out hb⟩
              · rw [if_neg c4] at hl
                have c4b : (t1 != wv) = true := bne_iff_ne.mpr c4
                clear c4
                go_wp2_with (first | (go_at_call 12; (with_reducible refine (rta_Next.calls n _ _ l0 a1 wv t1 0 _ ?side1 ?side2 A9.out).mono ?_); (case side1 => exact (Kd.C_below HR0.out HB2.out)); (case side2 => exact HC0.out); rintro e w8 ⟨rfl, hb⟩; replace hd := (hb.cell (World.block_lt_of_cell? _ _ hd)).trans hd; replace hj := (hb.cell (World.block_lt_of_cell? _ _ hj)).trans hj))
                refine wp_goto ?_
                exact ⟨rfl, n, Nat.lt_succ_self n, _, t1, _, _, _, _, _, _, _, _, _, _, _, _, _, _, _, _, _, _, _, _, _, _, _, _, _, _, _, _, _, _, _, _, _, _, _, _, _, _, _, _, _, _, _, _, rfl, hl, hd, hj, below_step HB2.out hb⟩
        · rw [if_neg c1] at hl
          simp only [Option.some.injEq, Prod.mk.injEq] at hl
          obtain ⟨rfl, rfl⟩ := hl
          have c1b : (t2 != 0) = true := bne_iff_ne.mpr c1
          go_wp2_with (first | (go_at_call 12; (with_reducible refine (rta_Next.calls n _ _ l0 a1 wv t1 t2 _ ?side1 ?side2 A9.out).mono ?_); (case side1 => exact (Kd.C_below HR0.out HB2.out)); (case side2 => exact HC0.out); rintro e w8 ⟨rfl, hb⟩))
          simp only [Exit.jump]
          go_ret2
          exact ⟨rfl, below_step HB2.out hb⟩
    · intro hp
      go_wp2_with (first | ((with_reducible refine gate_dst (N := 6) rfl ?_); refine box_event ?hg (N := 6) ?hd (cs := #[.int .i64 0, .int .i64 0, .int .i64 0, .int .i64 0, .int .i64 0, .int .i64 0]) (t := 41) ?hr ?_; (case hd => rfl); (case hg => rfl); (case hr => first | (go_simp; done) | (go_simp; rfl)); intro gb hg w14 hbox hb2; subst hg; have hcz0 : w14.cell? ⟨w8.heap.size, 0, none⟩ = some (.int .i64 0) := (blk_cell hbox 0).trans rfl; have hcz1 : w14.cell? ⟨w8.heap.size, 1, none⟩ = some (.int .i64 0) := (blk_cell hbox 1).trans rfl; have hcz2 : w14.cell? ⟨w8.heap.size, 2, none⟩ = some (.int .i64 0) := (blk_cell hbox 2).trans rfl; have hcz3 : w14.cell? ⟨w8.heap.size, 3, none⟩ = some (.int .i64 0) := (blk_cell hbox 3).trans rfl; have hcz4 : w14.cell? ⟨w8.heap.size, 4, none⟩ = some (.int .i64 0) := (blk_cell hbox 4).trans rfl; have hcz5 : w14.cell? ⟨w8.heap.size, 5, none⟩ = some (.int .i64 0) := (blk_cell hbox 5).trans rfl; have hfz0 := blk_frozen hbox 0; have hfz1 := blk_frozen hbox 1; have hfz2 := blk_frozen hbox 2; have hfz3 := blk_frozen hbox 3; have hfz4 := blk_frozen hbox 4; have hfz5 := blk_frozen hbox 5) | (go_at_call 21; (with_reducible refine (rta_there.calls k _ _ l0 a1 true _ ?side1 ?side2 A5.out).mono ?_); (case side1 => exact HR0.out); (case side2 => exact HC0.out); rintro e w8 ⟨rfl, hb⟩; replace hx0 := (hb.cell (World.block_lt_of_cell? w _ hx0)).trans hx0; replace hx1 := (hb.cell (World.block_lt_of_cell? w _ hx1)).trans hx1; replace hx2 := (hb.cell (World.block_lt_of_cell? w _ hx2)).trans hx2; replace hx3 := (hb.cell (World.block_lt_of_cell? w _ hx3)).trans hx3; replace hx4 := (hb.cell (World.block_lt_of_cell? w _ hx4)).trans hx4; replace hx5 := (hb.cell (World.block_lt_of_cell? w _ hx5)).trans hx5))
      refine wp_label ?_
      refine (by assumption : ∀ (a : Act) (w : World), _ → _) _ _ ?_
      refine hp k _ _ ⟨_, 0, _, _, _, _, _, _, _, _, _, _, _, _, _, _, _, _, _, _, _, _, _, _, _, _, _, _, _, _, _, _, _, _, _, _, _, _, _, _, _, _, _, _, _, _, rfl, H, ?_, ?_, ?_⟩
      · first | (go_simp; done) | simp [hcz0, hcz1, hcz2, hcz3, hcz4, hcz5]
      · first | (go_simp; done) | simp [hcz0, hcz1, hcz2, hcz3, hcz4, hcz5]
      · have hle : w.heap.size ≤ w8.heap.size := below_size hb
        repeat (refine below_set ?_ hle)
        exact below_step hb hb2


end Go.Proofs.Ytpjobjgfigplhaa.Print
