/- ReadyPlays: whatever is put and taken, in whatever order: what is told, and what is there, is as the document says. -/
import Derived.Test.YtojdbpeaclnmkaaRPlay
set_option linter.unusedVariables false
set_option linter.unusedSimpArgs false
namespace Go.Proofs.Ytojdbpeaclnmkaa.Rd
open Go Go.RowKit Go.Proofs.YtojdbpeaclnmkaaW.PrintWords Go.Proofs.YtojdbpeaclnmkaaW.PrintLast Go.Proofs.YtojdbpeaclnmkaaW.PrintMore Go.Proofs.Ytojdbpeaclnmkaa Go.Proofs.Ytojdbpeaclnmkaa.Print
attribute [local go_sem] max2_int min2_int max_two min_two
structure Op6 where
  kind : Int
  j : S30
  a : Int
  b : Int
def z6 : Op6 := ⟨0, z30, 0, 0⟩
/-- the cells of a row of calls -/
def OpsAt (w : World) (A : Option Addr) (ops : List Op6) : Prop := ∀ i, i < ops.length → ∃ ad, A = some ad ∧ ad.block < w.heap.size ∧
  w.cell? (ad.add (i * 6)) = some (.int .i64 (ops.getD i z6).kind) ∧ w.cell? ⟨(ad.add (i * 6)).block, (ad.add (i * 6)).off + 1, none⟩ = some (.int .i64 (ops.getD i z6).j.f0) ∧ w.cell? ⟨(ad.add (i * 6)).block, (ad.add (i * 6)).off + 2, none⟩ = some (.int .i64 (ops.getD i z6).j.f1) ∧
  w.cell? ⟨(ad.add (i * 6)).block, (ad.add (i * 6)).off + 3, none⟩ = some (.int .i64 (ops.getD i z6).j.f2) ∧ w.cell? ⟨(ad.add (i * 6)).block, (ad.add (i * 6)).off + 4, none⟩ = some (.int .i64 (ops.getD i z6).a) ∧ w.cell? ⟨(ad.add (i * 6)).block, (ad.add (i * 6)).off + 5, none⟩ = some (.int .i64 (ops.getD i z6).b)
theorem OpsAt.get {w0 w : World} {A : Option Addr} {ops : List Op6} (h : OpsAt w0 A ops) (hb : Below w0.heap.size w0 w) (i : Nat) (hi : i < ops.length) : ∃ ad, A = some ad ∧ ad.block < w.heap.size ∧
  w.cell? (ad.add (i * 6)) = some (.int .i64 (ops.getD i z6).kind) ∧ w.cell? ⟨(ad.add (i * 6)).block, (ad.add (i * 6)).off + 1, none⟩ = some (.int .i64 (ops.getD i z6).j.f0) ∧ w.cell? ⟨(ad.add (i * 6)).block, (ad.add (i * 6)).off + 2, none⟩ = some (.int .i64 (ops.getD i z6).j.f1) ∧
  w.cell? ⟨(ad.add (i * 6)).block, (ad.add (i * 6)).off + 3, none⟩ = some (.int .i64 (ops.getD i z6).j.f2) ∧ w.cell? ⟨(ad.add (i * 6)).block, (ad.add (i * 6)).off + 4, none⟩ = some (.int .i64 (ops.getD i z6).a) ∧ w.cell? ⟨(ad.add (i * 6)).block, (ad.add (i * 6)).off + 5, none⟩ = some (.int .i64 (ops.getD i z6).b) := by
  obtain ⟨ad, h1, hlt, c0, c1, c2, c3, c4, c5⟩ := h i hi
  have hl : (ad.add (i * 6)).block < w0.heap.size := by rw [add_block]; exact hlt
  exact ⟨ad, h1, Nat.lt_of_lt_of_le hlt hb.size, (hb.cell hl).trans c0, (hb.cell (p := ⟨_, _, none⟩) hl).trans c1, (hb.cell (p := ⟨_, _, none⟩) hl).trans c2, (hb.cell (p := ⟨_, _, none⟩) hl).trans c3, (hb.cell (p := ⟨_, _, none⟩) hl).trans c4, (hb.cell (p := ⟨_, _, none⟩) hl).trans c5⟩
def PlayRel (w : World) (r n : Nat) (vs vi : Value) (wr : World) : Prop := ∃ (k g : Nat) (l : List S30), k ≤ n ∧ vi = .int .i64 k ∧ vs = .pointer (some ⟨g, 0, none⟩) ∧ l.length ≤ k ∧ k ≤ 100 ∧ Good l ∧ PlayIs w wr g r l l
theorem play_start {w w1 : World} {g : Nat} (h : Sts w w1 [(.set g, [])]) : PlayIs w (w1.alloc (.cells #[.slice none 0 0] 28)) g w1.heap.size [] [] := by
  obtain ⟨v, hv⟩ := Sts.get (L1 := []) h
  exact ⟨h.below.alloc h.size _, ⟨v, hv.step ((Below.refl _ _).alloc (Nat.le_refl _) _)⟩, ⟨.slice none 0 0, h.size, heap_alloc_new w1 _, rfl, .inl ⟨rfl, rfl⟩⟩⟩
set_option maxRecDepth 100000 in
set_option maxHeartbeats 8000000 in
theorem plays_walk (A : Option Addr) (c : Nat) (ops : List Op6) (w : World) (hl : (ops.length : Int) ≤ 9223372036854775807) (hr : OpsAt w A ops) : Calls Try.prog 3 #[.slice A ops.length c] w fun e w' => e = .returned (.bool true) ∧ Below w.heap.size w w' := by
  have H0 : Sts w w [] := Sts.empty (Below.refl _ _)
  replace H0 := Lib.hid H0
  have HR := Lib.hid hr
  have HL := Lib.hid hl
  clear hr hl
  go_enter Try.func3, Try.ntmps3
  go_wp2_with fail
  refine (newS H0.out).mono ?_
  rintro e w1 ⟨g0, rfl, H1⟩
  have H2 := play_start H1
  replace H1 := Lib.hid H1
  replace H2 := Lib.hid H2
  go_wp2_with fail
  generalize hW2 : w1.alloc (.cells #[.slice none 0 0] 28) = W2 at *
  generalize hr0 : w1.heap.size = r at *
  clear hW2 hr0
  go_loopw [3, 5] (fun vs vi wr => PlayRel w r ops.length vs vi wr) (fun _ vi _ => ops.length - (intOf vi).toNat)
  case atStart => exact ⟨0, g0, [], Nat.zero_le _, rfl, rfl, Nat.le_refl _, Nat.zero_le _, (fun j hj => by cases hj), H2.out⟩
  case round =>
    obtain ⟨k, g, l, hk, rfl, rfl, hlk, hk100, hgood, HP⟩ := hrel
    replace HP := Lib.hid HP
    replace hgood := Lib.hid hgood
    by_cases hkn : k < ops.length
    · have hkn' : (k : Int) < (ops.length : Int) := by omega
      by_cases hk1 : k < 100
      · have hk1' : (k : Int) < 100 := by omega
        obtain ⟨ad, rfl, hab, c0, c1, c2, c3, c4, c5⟩ := HR.out.get HP.out.below k hkn
        generalize hx : ops.getD k z6 = o at *
        obtain ⟨kd, ⟨j0, j1, j2⟩, a, b⟩ := o
        dsimp only at c0 c1 c2 c3 c4 c5
        clear hx
        by_cases hkd : kd = 0
        · subst hkd
          go_wp2_with fail
          have hOB := Lib.hid (heap_alloc_new wr (.cells #[.int .i64 0, .int .i64 j0, .int .i64 j1, .int .i64 j2, .int .i64 a, .int .i64 b] 32))
          have HB := Lib.hid ((HP.out.step ((Below.refl _ _).alloc (Nat.le_refl _) (.cells #[.int .i64 0, .int .i64 j0, .int .i64 j1, .int .i64 j2, .int .i64 a, .int .i64 b] 32))).step (Below.refl _ _).drew)
          replace hOB := Lib.hid (show ((wr.alloc (.cells #[.int .i64 0, .int .i64 j0, .int .i64 j1, .int .i64 j2, .int .i64 a, .int .i64 b] 32)).drew).heap[wr.heap.size]? = _ from hOB.out)
          have hl4 := Lib.hid (show l.length < 10000 by omega)
          clear c0 c1 c2 c3 c4 c5
          by_cases ho : 1 ≤ j1 ∧ j1 ≤ 100
          · replace ho := Lib.hid ho
            refine start_ (n := 10) (S := fun w' => w'.cell? ⟨wr.heap.size, 1, none⟩ = some (.int .i64 j0) ∧ w'.cell? ⟨wr.heap.size, 2, none⟩ = some (.int .i64 j1) ∧ w'.cell? ⟨wr.heap.size, 3, none⟩ = some (.int .i64 j2)) (ds := []) #[false, false, false, false, false, false, false, false, false, false] (by kernel_rfl) rfl rfl ⟨(blk_cell hOB.out 1).trans rfl, (blk_cell hOB.out 2).trans rfl, (blk_cell hOB.out 3).trans rfl⟩ (fun hHeld => ?_)
            refine pure_ (i := 0) (N := some 43) (v := ?_) (a' := ?_) #[true, false, false, false, false, false, false, false, false, false] rfl rfl (by kernel_rfl) (fun _ _ _ h => h) (Or.inl ⟨by rfl, ?_⟩) ?_ ?_
            rotate_left
            · intro w'
              go_simp
              first | with_reducible rfl | rfl
            rotate_left
            · simp only [Act.put, List.setIfInBounds_toArray, List.set_cons_zero, List.set_cons_succ, i64_w, i32_w]
              rfl
            refine pure_ (i := 1) (N := some 44) (v := ?_) (a' := ?_) #[true, true, false, false, false, false, false, false, false, false] rfl rfl (by kernel_rfl) (fun _ _ _ h => h) (Or.inl ⟨by rfl, ?_⟩) ?_ ?_
            rotate_left
            · intro w'
              go_simp
              first | with_reducible rfl | rfl
            rotate_left
            · simp only [Act.put, List.setIfInBounds_toArray, List.set_cons_zero, List.set_cons_succ, i64_w, i32_w]
              rfl
            refine take_ (i := 2) (N := some 45) (v := ?_) (a' := ?_) #[true, true, true, false, false, false, false, false, false, false] rfl rfl (by kernel_rfl) (fun _ _ _ h => h) (Or.inl ⟨by rfl, ?_⟩) hHeld ?_ ?_
            rotate_left
            · rintro w' ⟨s0, s1, s2⟩
              go_simp
              first | with_reducible rfl | rfl
            rotate_left
            · simp only [Act.put, List.setIfInBounds_toArray, List.set_cons_zero, List.set_cons_succ, i64_w, i32_w]
              rfl
            refine pure_ (i := 4) (N := some 47) (v := ?_) (a' := ?_) #[true, true, true, false, true, false, false, false, false, false] rfl rfl (by kernel_rfl) (fun _ _ _ h => h) (Or.inl ⟨by rfl, ?_⟩) ?_ ?_
            rotate_left
            · intro w'
              go_simp
              first | with_reducible rfl | rfl
            rotate_left
            · simp only [Act.put, List.setIfInBounds_toArray, List.set_cons_zero, List.set_cons_succ, i64_w, i32_w]
              rfl
            refine pure_ (i := 5) (N := some 48) (v := ?_) (a' := ?_) #[true, true, true, false, true, true, false, false, false, false] rfl rfl (by kernel_rfl) (fun _ _ _ h => h) (Or.inl ⟨by rfl, ?_⟩) ?_ ?_
            rotate_left
            · intro w'
              go_simp
              first | with_reducible rfl | rfl
            rotate_left
            · simp only [Act.put, List.setIfInBounds_toArray, List.set_cons_zero, List.set_cons_succ, i64_w, i32_w]
              rfl
            refine take_ (i := 6) (N := some 49) (v := ?_) (a' := ?_) #[true, true, true, false, true, true, true, false, false, false] rfl rfl (by kernel_rfl) (fun _ _ _ h => h) (Or.inl ⟨by rfl, ?_⟩) hHeld ?_ ?_
            rotate_left
            · rintro w' ⟨s0, s1, s2⟩
              go_simp
              first | with_reducible rfl | rfl
            rotate_left
            · simp only [Act.put, List.setIfInBounds_toArray, List.set_cons_zero, List.set_cons_succ, i64_w, i32_w]
              rfl
            refine one_ (i := 3) (N := some 46) #[true, true, true, true, true, true, true, false, false, false] rfl rfl (by kernel_rfl) (by decide) (fun K hK => ?_)
            refine goes_ Try.func11 (by kernel_rfl) rfl #[.pointer (some ⟨g, 0, none⟩), .agg #[.int .i64 j0, .int .i64 j1, .int .i64 j2]] (by rfl) rfl rfl (by (try simp only [List.map_toArray, List.map_cons, List.map_nil]); first | done | rfl) ?_
            refine (PlayIs.sput HB.out j0 j1 j2 ho.out.1 ho.out.2 hl4.out).mono ?_
            rintro e w4 ⟨rfl, H4, hk4⟩
            refine ⟨_, rfl, ?_⟩
            have hOB4 := Lib.hid (hk4 _ _ _ hOB.out (by decide) (by decide))
            replace H4 := Lib.hid H4
            clear hk4 hOB HB
            refine hK.out _ _ ⟨(blk_cell hOB4.out 1).trans rfl, (blk_cell hOB4.out 2).trans rfl, (blk_cell hOB4.out 3).trans rfl⟩ (fun hHeld => ?_)
            clear hK K
            refine norm_ (a' := ?_) ?_ ?_
            rotate_left
            · show Act.put _ (some 46) _ = _
              simp only [Act.put, List.setIfInBounds_toArray, List.set_cons_zero, List.set_cons_succ, i64_w, i32_w]
              rfl
            refine one_ (i := 7) (N := some 50) #[true, true, true, true, true, true, true, true, false, false] rfl rfl (by kernel_rfl) (by decide) (fun K hK => ?_)
            refine goes_ Try.func13 (by kernel_rfl) rfl #[.agg #[.int .i64 j0, .int .i64 j1, .int .i64 j2]] (by rfl) rfl rfl (by (try simp only [List.map_toArray, List.map_cons, List.map_nil]); first | done | rfl) ?_
            refine (camshaftlaw17_one.calls j0 j1 j2 j0 j1 j2 _ rfl).mono ?_
            rintro e w5 ⟨rfl, hb5⟩
            refine ⟨_, rfl, ?_⟩
            have hOB5 := Lib.hid ((hb5.block _ (blk_lt hOB4.out)).trans hOB4.out)
            have H5 := Lib.hid (H4.out.step hb5)
            clear hb5 H4 hOB4
            refine hK.out _ _ ⟨(blk_cell hOB5.out 1).trans rfl, (blk_cell hOB5.out 2).trans rfl, (blk_cell hOB5.out 3).trans rfl⟩ (fun hHeld => ?_)
            clear hK K
            refine norm_ (a' := ?_) ?_ ?_
            rotate_left
            · show Act.put _ (some 50) _ = _
              simp only [Act.put, List.setIfInBounds_toArray, List.set_cons_zero, List.set_cons_succ, i64_w, i32_w]
              rfl
            refine one_ (i := 8) (N := some 51) #[true, true, true, true, true, true, true, true, true, false] rfl rfl (by kernel_rfl) (by decide) (fun K hK => ?_)
            refine goes_ Try.func12 (by kernel_rfl) rfl #[.pointer (some ⟨r, 0, none⟩), .agg #[.int .i64 j0, .int .i64 j1, .int .i64 j2]] (by rfl) rfl rfl (by (try simp only [List.map_toArray, List.map_cons, List.map_nil]); first | done | rfl) ?_
            refine (PlayIs.rput H5.out j0 j1 j2 ho.out.1 ho.out.2 hl4.out).mono ?_
            rintro e w6 ⟨rfl, H6, hk6⟩
            refine ⟨_, rfl, ?_⟩
            have hOB6 := Lib.hid (hk6 _ _ _ hOB5.out (by decide) (by decide))
            replace H6 := Lib.hid H6
            clear hk6 hOB5 H5
            refine hK.out _ _ ⟨(blk_cell hOB6.out 1).trans rfl, (blk_cell hOB6.out 2).trans rfl, (blk_cell hOB6.out 3).trans rfl⟩ (fun hHeld => ?_)
            clear hK K
            refine norm_ (a' := ?_) ?_ ?_
            rotate_left
            · show Act.put _ (some 51) _ = _
              simp only [Act.put, List.setIfInBounds_toArray, List.set_cons_zero, List.set_cons_succ, i64_w, i32_w]
              rfl
            refine pure_ (i := 9) (N := some 52) (v := ?_) (a' := ?_) #[true, true, true, true, true, true, true, true, true, true] rfl rfl (by kernel_rfl) (fun _ _ _ h => h) (Or.inl ⟨by rfl, ?_⟩) ?_ ?_
            rotate_left
            · intro w'
              go_simp
              first | with_reducible rfl | rfl
            rotate_left
            · simp only [Act.put, List.setIfInBounds_toArray, List.set_cons_zero, List.set_cons_succ, i64_w, i32_w]
              rfl
            refine done_ (by kernel_rfl) ?_
            clear hOB6
            have hgL : Hid (Good (l ++ [(⟨j0, j1, j2⟩ : S30)])) := Lib.hid (fun x hx => by
              rcases List.mem_append.1 hx with hx | hx
              · exact hgood.out x hx
              · rw [List.mem_singleton] at hx
                subst hx
                exact ho.out)
            have hll : (l ++ [(⟨j0, j1, j2⟩ : S30)]).length ≤ k + 1 := by rw [List.length_append]; simp; omega
            generalize l ++ [(⟨j0, j1, j2⟩ : S30)] = L at *
            have hLlen : L.length ≤ k + 1 := hll
            have hLb : L.length ≤ 101 := by omega
            replace hLlen := Lib.hid hLlen
            obtain ⟨AR, cR, hcr, hpr⟩ := H6.out.refRow (by omega)
            have hrlt := World.block_lt_of_cell? _ _ hcr
            have hlen : Hid (L.length ≤ 10000 ∧ L.length ≤ 100000) := Lib.hid ⟨by omega, by omega⟩
            replace hpr := Lib.hid hpr
            go_wp2_with fail
            refine start_ (n := 16) (S := fun w' => w'.cell? ⟨r, 0, none⟩ = some (.slice AR L.length cR)) (ds := [7, 11, 13]) #[false, false, false, false, false, false, false, false, false, false, false, false, false, false, false, false] (by kernel_rfl) rfl rfl hcr (fun hHeld => ?_)
            refine pure_ (i := 0) (N := some 82) (v := ?_) (a' := ?_) #[true, false, false, false, false, false, false, false, false, false, false, false, false, false, false, false] rfl rfl (by kernel_rfl) (fun _ _ _ h => h) (Or.inl ⟨by rfl, ?_⟩) ?_ ?_
            rotate_left
            · intro w'
              go_simp
              first | with_reducible rfl | rfl
            rotate_left
            · simp only [Act.put, List.setIfInBounds_toArray, List.set_cons_zero, List.set_cons_succ, i64_w, i32_w]
              rfl
            refine pure_ (i := 3) (N := some 85) (v := ?_) (a' := ?_) #[true, false, false, true, false, false, false, false, false, false, false, false, false, false, false, false] rfl rfl (by kernel_rfl) (fun _ _ _ h => h) (Or.inl ⟨by rfl, ?_⟩) ?_ ?_
            rotate_left
            · intro w'
              go_simp
              first | with_reducible rfl | rfl
            rotate_left
            · simp only [Act.put, List.setIfInBounds_toArray, List.set_cons_zero, List.set_cons_succ, i64_w, i32_w]
              rfl
            refine pure_ (i := 4) (N := some 86) (v := ?_) (a' := ?_) #[true, false, false, true, true, false, false, false, false, false, false, false, false, false, false, false] rfl rfl (by kernel_rfl) (fun _ _ _ h => h) (Or.inl ⟨by rfl, ?_⟩) ?_ ?_
            rotate_left
            · intro w'
              go_simp
              first | with_reducible rfl | rfl
            rotate_left
            · simp only [Act.put, List.setIfInBounds_toArray, List.set_cons_zero, List.set_cons_succ, i64_w, i32_w]
              rfl
            refine pure_ (i := 5) (N := some 87) (v := ?_) (a' := ?_) #[true, false, false, true, true, true, false, false, false, false, false, false, false, false, false, false] rfl rfl (by kernel_rfl) (fun _ _ _ h => h) (Or.inl ⟨by rfl, ?_⟩) ?_ ?_
            rotate_left
            · intro w'
              go_simp
              first | with_reducible rfl | rfl
            rotate_left
            · simp only [Act.put, List.setIfInBounds_toArray, List.set_cons_zero, List.set_cons_succ, i64_w, i32_w]
              rfl
            refine take_ (i := 6) (N := some 88) (v := ?_) (a' := ?_) #[true, false, false, true, true, true, true, false, false, false, false, false, false, false, false, false] rfl rfl (by kernel_rfl) (fun _ _ _ h => h) (Or.inl ⟨by rfl, ?_⟩) hHeld ?_ ?_
            rotate_left
            · rintro w' s0
              go_simp
              first | with_reducible rfl | rfl
            rotate_left
            · simp only [Act.put, List.setIfInBounds_toArray, List.set_cons_zero, List.set_cons_succ, i64_w, i32_w]
              rfl
            refine one_ (i := 1) (N := some 83) #[true, true, false, true, true, true, true, false, false, false, false, false, false, false, false, false] rfl rfl (by kernel_rfl) (by decide) (fun K hK => ?_)
            refine goes_ Try.func19 (by kernel_rfl) rfl #[.pointer (some ⟨g, 0, none⟩)] (by rfl) rfl rfl (by (try simp only [List.map_toArray, List.map_cons, List.map_nil]); first | done | rfl) ?_
            refine (PlayIs.all (H6.out.step (Below.refl _ _).drew) hlen.out.1).mono ?_
            rintro e w5 ⟨A5, c5, hc5, rfl, H5, hk5, hb5⟩
            refine ⟨_, rfl, ?_⟩
            have hcr5 := (hb5.cell (p := ⟨r, 0, none⟩) hrlt).trans hcr
            have hrlt5 := World.block_lt_of_cell? _ _ hcr5
            have hpr5 := PlIs.step (PlIs.step hpr.out (Below.refl _ _).drew) hb5
            replace H5 := Lib.hid H5
            replace hk5 := Lib.hid hk5
            replace hpr5 := Lib.hid hpr5
            replace hc5 := Lib.hid hc5
            clear hb5 hcr hrlt
            refine hK.out _ _ hcr5 (fun hHeld => ?_)
            clear hK K
            refine norm_ (a' := ?_) ?_ ?_
            rotate_left
            · show Act.put _ (some 83) _ = _
              simp only [Act.put, List.setIfInBounds_toArray, List.set_cons_zero, List.set_cons_succ, i64_w, i32_w]
              rfl
            refine one_ (i := 2) (N := some 84) #[true, true, true, true, true, true, true, false, false, false, false, false, false, false, false, false] rfl rfl (by kernel_rfl) (by decide) (fun K hK => ?_)
            refine goes_ Try.func18 (by kernel_rfl) rfl #[.slice A5 L.length c5] (by rfl) rfl rfl (by (try simp only [List.map_toArray, List.map_cons, List.map_nil]); first | done | rfl) ?_
            refine (plainC hk5.out hc5.out hlen.out.2).mono ?_
            rintro e w6 ⟨A6, c6, rfl, hp6, hb6⟩
            refine ⟨_, rfl, ?_⟩
            have hcr6 := (hb6.cell (p := ⟨r, 0, none⟩) hrlt5).trans hcr5
            have hpr6 := PlIs.step hpr5.out hb6
            have H6 := H5.out.step hb6
            replace H6 := Lib.hid H6
            replace hp6 := Lib.hid hp6
            replace hpr6 := Lib.hid hpr6
            clear hb6 hcr5 hrlt5 H5 hk5
            refine hK.out _ _ hcr6 (fun hHeld => ?_)
            clear hK K
            refine norm_ (a' := ?_) ?_ ?_
            rotate_left
            · show Act.put _ (some 84) _ = _
              simp only [Act.put, List.setIfInBounds_toArray, List.set_cons_zero, List.set_cons_succ, i64_w, i32_w]
              rfl
            refine last_ (i := 7) (N := some 89) #[true, true, true, true, true, true, true, true, false, false, false, false, false, false, false, false] rfl rfl (by kernel_rfl) (by decide) (fun K hK => ?_)
            refine goes_ Try.func17 (by kernel_rfl) rfl #[.slice A6 L.length c6, .slice AR L.length cR] (by rfl) rfl rfl (by (try simp only [List.map_toArray, List.map_cons, List.map_nil]); first | done | rfl) ?_
            refine (sameC hp6.out hpr6.out hlen.out.2).mono ?_
            rintro e w7 ⟨rfl, hb7⟩
            refine ⟨_, rfl, ?_⟩
            have H7 := H6.out.step hb7
            replace H7 := Lib.hid H7
            clear hb7 hcr6 H6
            refine hK.out _ _ ?_
            clear hK K
            refine norm_ (a' := ?_) ?_ ?_
            rotate_left
            · show Act.put _ (some 89) _ = _
              simp only [Act.put, List.setIfInBounds_toArray, List.set_cons_zero, List.set_cons_succ, i64_w, i32_w]
              rfl
            refine pure_ (i := 8) (N := some 90) (v := ?_) (a' := ?_) #[true, true, true, true, true, true, true, true, true, false, false, false, false, false, false, false] rfl rfl (by kernel_rfl) (fun _ _ _ h => h) (Or.inl ⟨by rfl, ?_⟩) ?_ ?_
            rotate_left
            · intro w'
              go_simp
              first | with_reducible rfl | rfl
            rotate_left
            · simp only [Act.put, List.setIfInBounds_toArray, List.set_cons_zero, List.set_cons_succ, i64_w, i32_w]
              rfl
            refine pure_ (i := 9) (N := some 91) (v := ?_) (a' := ?_) #[true, true, true, true, true, true, true, true, true, true, false, false, false, false, false, false] rfl rfl (by kernel_rfl) (fun _ _ _ h => h) (Or.inl ⟨by rfl, ?_⟩) ?_ ?_
            rotate_left
            · intro w'
              go_simp
              first | with_reducible rfl | rfl
            rotate_left
            · simp only [Act.put, List.setIfInBounds_toArray, List.set_cons_zero, List.set_cons_succ, i64_w, i32_w]
              rfl
            refine pure_ (i := 10) (N := some 92) (v := ?_) (a' := ?_) #[true, true, true, true, true, true, true, true, true, true, true, false, false, false, false, false] rfl rfl (by kernel_rfl) (fun _ _ _ h => h) (Or.inl ⟨by rfl, ?_⟩) ?_ ?_
            rotate_left
            · intro w'
              go_simp
              first | with_reducible rfl | rfl
            rotate_left
            · simp only [Act.put, List.setIfInBounds_toArray, List.set_cons_zero, List.set_cons_succ, i64_w, i32_w]
              rfl
            refine pure_ (i := 12) (N := some 94) (v := ?_) (a' := ?_) #[true, true, true, true, true, true, true, true, true, true, true, false, true, false, false, false] rfl rfl (by kernel_rfl) (fun _ _ _ h => h) (Or.inl ⟨by rfl, ?_⟩) ?_ ?_
            rotate_left
            · intro w'
              go_simp
              first | with_reducible rfl | rfl
            rotate_left
            · simp only [Act.put, List.setIfInBounds_toArray, List.set_cons_zero, List.set_cons_succ, i64_w, i32_w]
              rfl
            refine last_ (i := 11) (N := some 93) #[true, true, true, true, true, true, true, true, true, true, true, true, true, false, false, false] rfl rfl (by kernel_rfl) (by decide) (fun K hK => ?_)
            refine goes_ Try.func20 (by kernel_rfl) rfl #[.pointer (some ⟨g, 0, none⟩)] (by rfl) rfl rfl (by (try simp only [List.map_toArray, List.map_cons, List.map_nil]); first | done | rfl) ?_
            refine (PlayIs.sbest H7.out hlen.out.1).mono ?_
            rintro e w8 ⟨rfl, H8⟩
            refine ⟨_, rfl, ?_⟩
            replace H8 := Lib.hid H8
            clear H7
            refine hK.out _ _ ?_
            clear hK K
            refine norm_ (a' := ?_) ?_ ?_
            rotate_left
            · show Act.put _ (some 93) _ = _
              simp only [Act.put, List.setIfInBounds_toArray, List.set_cons_zero, List.set_cons_succ, i64_w, i32_w]
              rfl
            refine last_ (i := 13) (N := some 95) #[true, true, true, true, true, true, true, true, true, true, true, true, true, true, false, false] rfl rfl (by kernel_rfl) (by decide) (fun K hK => ?_)
            refine goes_ Try.func21 (by kernel_rfl) rfl #[.pointer (some ⟨r, 0, none⟩)] (by rfl) rfl rfl (by (try simp only [List.map_toArray, List.map_cons, List.map_nil]); first | done | rfl) ?_
            refine (PlayIs.rbest H8.out hlen.out.1).mono ?_
            rintro e w9 ⟨rfl, H9⟩
            refine ⟨_, rfl, ?_⟩
            replace H9 := Lib.hid H9
            clear H8
            refine hK.out _ _ ?_
            clear hK K
            refine norm_ (a' := ?_) ?_ ?_
            rotate_left
            · show Act.put _ (some 95) _ = _
              simp only [Act.put, List.setIfInBounds_toArray, List.set_cons_zero, List.set_cons_succ, i64_w, i32_w]
              rfl
            refine pure_ (i := 14) (N := some 96) (v := ?_) (a' := ?_) #[true, true, true, true, true, true, true, true, true, true, true, true, true, true, true, false] rfl rfl (by kernel_rfl) (fun _ _ _ h => h) (Or.inl ⟨by rfl, ?_⟩) ?_ ?_
            rotate_left
            · intro w'
              go_simp
              first | with_reducible rfl | rfl
            rotate_left
            · simp only [Act.put, List.setIfInBounds_toArray, List.set_cons_zero, List.set_cons_succ, i64_w, i32_w]
              rfl
            refine pure_ (i := 15) (N := some 97) (v := ?_) (a' := ?_) #[true, true, true, true, true, true, true, true, true, true, true, true, true, true, true, true] rfl rfl (by kernel_rfl) (fun _ _ _ h => h) (Or.inl ⟨by rfl, ?_⟩) ?_ ?_
            rotate_left
            · intro w'
              go_simp
              first | with_reducible rfl | rfl
            rotate_left
            · simp only [Act.put, List.setIfInBounds_toArray, List.set_cons_zero, List.set_cons_succ, i64_w, i32_w]
              rfl
            refine done_ (by kernel_rfl) ?_
            go_wp2_with fail
            go_roundw
            case rel => exact ⟨k + 1, g, L, by omega, by go_num, rfl, hLlen.out, by omega, hgL.out, H9.out⟩
            case measure => simp [intOf]; omega
          · replace ho : Hid (j1 < 1 ∨ 100 < j1) := Lib.hid (by omega)
            refine start_ (n := 10) (S := fun w' => w'.cell? ⟨wr.heap.size, 1, none⟩ = some (.int .i64 j0) ∧ w'.cell? ⟨wr.heap.size, 2, none⟩ = some (.int .i64 j1) ∧ w'.cell? ⟨wr.heap.size, 3, none⟩ = some (.int .i64 j2)) (ds := []) #[false, false, false, false, false, false, false, false, false, false] (by kernel_rfl) rfl rfl ⟨(blk_cell hOB.out 1).trans rfl, (blk_cell hOB.out 2).trans rfl, (blk_cell hOB.out 3).trans rfl⟩ (fun hHeld => ?_)
            refine pure_ (i := 0) (N := some 43) (v := ?_) (a' := ?_) #[true, false, false, false, false, false, false, false, false, false] rfl rfl (by kernel_rfl) (fun _ _ _ h => h) (Or.inl ⟨by rfl, ?_⟩) ?_ ?_
            rotate_left
            · intro w'
              go_simp
              first | with_reducible rfl | rfl
            rotate_left
            · simp only [Act.put, List.setIfInBounds_toArray, List.set_cons_zero, List.set_cons_succ, i64_w, i32_w]
              rfl
            refine pure_ (i := 1) (N := some 44) (v := ?_) (a' := ?_) #[true, true, false, false, false, false, false, false, false, false] rfl rfl (by kernel_rfl) (fun _ _ _ h => h) (Or.inl ⟨by rfl, ?_⟩) ?_ ?_
            rotate_left
            · intro w'
              go_simp
              first | with_reducible rfl | rfl
            rotate_left
            · simp only [Act.put, List.setIfInBounds_toArray, List.set_cons_zero, List.set_cons_succ, i64_w, i32_w]
              rfl
            refine take_ (i := 2) (N := some 45) (v := ?_) (a' := ?_) #[true, true, true, false, false, false, false, false, false, false] rfl rfl (by kernel_rfl) (fun _ _ _ h => h) (Or.inl ⟨by rfl, ?_⟩) hHeld ?_ ?_
            rotate_left
            · rintro w' ⟨s0, s1, s2⟩
              go_simp
              first | with_reducible rfl | rfl
            rotate_left
            · simp only [Act.put, List.setIfInBounds_toArray, List.set_cons_zero, List.set_cons_succ, i64_w, i32_w]
              rfl
            refine pure_ (i := 4) (N := some 47) (v := ?_) (a' := ?_) #[true, true, true, false, true, false, false, false, false, false] rfl rfl (by kernel_rfl) (fun _ _ _ h => h) (Or.inl ⟨by rfl, ?_⟩) ?_ ?_
            rotate_left
            · intro w'
              go_simp
              first | with_reducible rfl | rfl
            rotate_left
            · simp only [Act.put, List.setIfInBounds_toArray, List.set_cons_zero, List.set_cons_succ, i64_w, i32_w]
              rfl
            refine pure_ (i := 5) (N := some 48) (v := ?_) (a' := ?_) #[true, true, true, false, true, true, false, false, false, false] rfl rfl (by kernel_rfl) (fun _ _ _ h => h) (Or.inl ⟨by rfl, ?_⟩) ?_ ?_
            rotate_left
            · intro w'
              go_simp
              first | with_reducible rfl | rfl
            rotate_left
            · simp only [Act.put, List.setIfInBounds_toArray, List.set_cons_zero, List.set_cons_succ, i64_w, i32_w]
              rfl
            refine take_ (i := 6) (N := some 49) (v := ?_) (a' := ?_) #[true, true, true, false, true, true, true, false, false, false] rfl rfl (by kernel_rfl) (fun _ _ _ h => h) (Or.inl ⟨by rfl, ?_⟩) hHeld ?_ ?_
            rotate_left
            · rintro w' ⟨s0, s1, s2⟩
              go_simp
              first | with_reducible rfl | rfl
            rotate_left
            · simp only [Act.put, List.setIfInBounds_toArray, List.set_cons_zero, List.set_cons_succ, i64_w, i32_w]
              rfl
            refine one_ (i := 3) (N := some 46) #[true, true, true, true, true, true, true, false, false, false] rfl rfl (by kernel_rfl) (by decide) (fun K hK => ?_)
            refine goes_ Try.func11 (by kernel_rfl) rfl #[.pointer (some ⟨g, 0, none⟩), .agg #[.int .i64 j0, .int .i64 j1, .int .i64 j2]] (by rfl) rfl rfl (by (try simp only [List.map_toArray, List.map_cons, List.map_nil]); first | done | rfl) ?_
            refine (PlayIs.sputNo HB.out j0 j1 j2 ho.out).mono ?_
            rintro e w4 ⟨rfl, H4, hk4⟩
            refine ⟨_, rfl, ?_⟩
            have hOB4 := Lib.hid (hk4 _ _ _ hOB.out (by decide) (by decide))
            replace H4 := Lib.hid H4
            clear hk4 hOB HB
            refine hK.out _ _ ⟨(blk_cell hOB4.out 1).trans rfl, (blk_cell hOB4.out 2).trans rfl, (blk_cell hOB4.out 3).trans rfl⟩ (fun hHeld => ?_)
            clear hK K
            refine norm_ (a' := ?_) ?_ ?_
            rotate_left
            · show Act.put _ (some 46) _ = _
              simp only [Act.put, List.setIfInBounds_toArray, List.set_cons_zero, List.set_cons_succ, i64_w, i32_w]
              rfl
            refine one_ (i := 7) (N := some 50) #[true, true, true, true, true, true, true, true, false, false] rfl rfl (by kernel_rfl) (by decide) (fun K hK => ?_)
            refine goes_ Try.func13 (by kernel_rfl) rfl #[.agg #[.int .i64 j0, .int .i64 j1, .int .i64 j2]] (by rfl) rfl rfl (by (try simp only [List.map_toArray, List.map_cons, List.map_nil]); first | done | rfl) ?_
            refine (camshaftlaw17_one.calls j0 j1 j2 j0 j1 j2 _ rfl).mono ?_
            rintro e w5 ⟨rfl, hb5⟩
            refine ⟨_, rfl, ?_⟩
            have hOB5 := Lib.hid ((hb5.block _ (blk_lt hOB4.out)).trans hOB4.out)
            have H5 := Lib.hid (H4.out.step hb5)
            clear hb5 H4 hOB4
            refine hK.out _ _ ⟨(blk_cell hOB5.out 1).trans rfl, (blk_cell hOB5.out 2).trans rfl, (blk_cell hOB5.out 3).trans rfl⟩ (fun hHeld => ?_)
            clear hK K
            refine norm_ (a' := ?_) ?_ ?_
            rotate_left
            · show Act.put _ (some 50) _ = _
              simp only [Act.put, List.setIfInBounds_toArray, List.set_cons_zero, List.set_cons_succ, i64_w, i32_w]
              rfl
            refine one_ (i := 8) (N := some 51) #[true, true, true, true, true, true, true, true, true, false] rfl rfl (by kernel_rfl) (by decide) (fun K hK => ?_)
            refine goes_ Try.func12 (by kernel_rfl) rfl #[.pointer (some ⟨r, 0, none⟩), .agg #[.int .i64 j0, .int .i64 j1, .int .i64 j2]] (by rfl) rfl rfl (by (try simp only [List.map_toArray, List.map_cons, List.map_nil]); first | done | rfl) ?_
            refine (PlayIs.rputNo H5.out j0 j1 j2 ho.out).mono ?_
            rintro e w6 ⟨rfl, H6, hk6⟩
            refine ⟨_, rfl, ?_⟩
            have hOB6 := Lib.hid (hk6 _ _ _ hOB5.out (by decide) (by decide))
            replace H6 := Lib.hid H6
            clear hk6 hOB5 H5
            refine hK.out _ _ ⟨(blk_cell hOB6.out 1).trans rfl, (blk_cell hOB6.out 2).trans rfl, (blk_cell hOB6.out 3).trans rfl⟩ (fun hHeld => ?_)
            clear hK K
            refine norm_ (a' := ?_) ?_ ?_
            rotate_left
            · show Act.put _ (some 51) _ = _
              simp only [Act.put, List.setIfInBounds_toArray, List.set_cons_zero, List.set_cons_succ, i64_w, i32_w]
              rfl
            refine pure_ (i := 9) (N := some 52) (v := ?_) (a' := ?_) #[true, true, true, true, true, true, true, true, true, true] rfl rfl (by kernel_rfl) (fun _ _ _ h => h) (Or.inl ⟨by rfl, ?_⟩) ?_ ?_
            rotate_left
            · intro w'
              go_simp
              first | with_reducible rfl | rfl
            rotate_left
            · simp only [Act.put, List.setIfInBounds_toArray, List.set_cons_zero, List.set_cons_succ, i64_w, i32_w]
              rfl
            refine done_ (by kernel_rfl) ?_
            clear hOB6
            have hgL := hgood
            have hLlen : l.length ≤ k + 1 := by omega
            have hLb : l.length ≤ 101 := by omega
            replace hLlen := Lib.hid hLlen
            obtain ⟨AR, cR, hcr, hpr⟩ := H6.out.refRow (by omega)
            have hrlt := World.block_lt_of_cell? _ _ hcr
            have hlen : Hid (l.length ≤ 10000 ∧ l.length ≤ 100000) := Lib.hid ⟨by omega, by omega⟩
            replace hpr := Lib.hid hpr
            go_wp2_with fail
            refine start_ (n := 16) (S := fun w' => w'.cell? ⟨r, 0, none⟩ = some (.slice AR l.length cR)) (ds := [7, 11, 13]) #[false, false, false, false, false, false, false, false, false, false, false, false, false, false, false, false] (by kernel_rfl) rfl rfl hcr (fun hHeld => ?_)
            refine pure_ (i := 0) (N := some 82) (v := ?_) (a' := ?_) #[true, false, false, false, false, false, false, false, false, false, false, false, false, false, false, false] rfl rfl (by kernel_rfl) (fun _ _ _ h => h) (Or.inl ⟨by rfl, ?_⟩) ?_ ?_
            rotate_left
            · intro w'
              go_simp
              first | with_reducible rfl | rfl
            rotate_left
            · simp only [Act.put, List.setIfInBounds_toArray, List.set_cons_zero, List.set_cons_succ, i64_w, i32_w]
              rfl
            refine pure_ (i := 3) (N := some 85) (v := ?_) (a' := ?_) #[true, false, false, true, false, false, false, false, false, false, false, false, false, false, false, false] rfl rfl (by kernel_rfl) (fun _ _ _ h => h) (Or.inl ⟨by rfl, ?_⟩) ?_ ?_
            rotate_left
            · intro w'
              go_simp
              first | with_reducible rfl | rfl
            rotate_left
            · simp only [Act.put, List.setIfInBounds_toArray, List.set_cons_zero, List.set_cons_succ, i64_w, i32_w]
              rfl
            refine pure_ (i := 4) (N := some 86) (v := ?_) (a' := ?_) #[true, false, false, true, true, false, false, false, false, false, false, false, false, false, false, false] rfl rfl (by kernel_rfl) (fun _ _ _ h => h) (Or.inl ⟨by rfl, ?_⟩) ?_ ?_
            rotate_left
            · intro w'
              go_simp
              first | with_reducible rfl | rfl
            rotate_left
            · simp only [Act.put, List.setIfInBounds_toArray, List.set_cons_zero, List.set_cons_succ, i64_w, i32_w]
              rfl
            refine pure_ (i := 5) (N := some 87) (v := ?_) (a' := ?_) #[true, false, false, true, true, true, false, false, false, false, false, false, false, false, false, false] rfl rfl (by kernel_rfl) (fun _ _ _ h => h) (Or.inl ⟨by rfl, ?_⟩) ?_ ?_
            rotate_left
            · intro w'
              go_simp
              first | with_reducible rfl | rfl
            rotate_left
            · simp only [Act.put, List.setIfInBounds_toArray, List.set_cons_zero, List.set_cons_succ, i64_w, i32_w]
              rfl
            refine take_ (i := 6) (N := some 88) (v := ?_) (a' := ?_) #[true, false, false, true, true, true, true, false, false, false, false, false, false, false, false, false] rfl rfl (by kernel_rfl) (fun _ _ _ h => h) (Or.inl ⟨by rfl, ?_⟩) hHeld ?_ ?_
            rotate_left
            · rintro w' s0
              go_simp
              first | with_reducible rfl | rfl
            rotate_left
            · simp only [Act.put, List.setIfInBounds_toArray, List.set_cons_zero, List.set_cons_succ, i64_w, i32_w]
              rfl
            refine one_ (i := 1) (N := some 83) #[true, true, false, true, true, true, true, false, false, false, false, false, false, false, false, false] rfl rfl (by kernel_rfl) (by decide) (fun K hK => ?_)
            refine goes_ Try.func19 (by kernel_rfl) rfl #[.pointer (some ⟨g, 0, none⟩)] (by rfl) rfl rfl (by (try simp only [List.map_toArray, List.map_cons, List.map_nil]); first | done | rfl) ?_
            refine (PlayIs.all (H6.out.step (Below.refl _ _).drew) hlen.out.1).mono ?_
            rintro e w5 ⟨A5, c5, hc5, rfl, H5, hk5, hb5⟩
            refine ⟨_, rfl, ?_⟩
            have hcr5 := (hb5.cell (p := ⟨r, 0, none⟩) hrlt).trans hcr
            have hrlt5 := World.block_lt_of_cell? _ _ hcr5
            have hpr5 := PlIs.step (PlIs.step hpr.out (Below.refl _ _).drew) hb5
            replace H5 := Lib.hid H5
            replace hk5 := Lib.hid hk5
            replace hpr5 := Lib.hid hpr5
            replace hc5 := Lib.hid hc5
            clear hb5 hcr hrlt
            refine hK.out _ _ hcr5 (fun hHeld => ?_)
            clear hK K
            refine norm_ (a' := ?_) ?_ ?_
            rotate_left
            · show Act.put _ (some 83) _ = _
              simp only [Act.put, List.setIfInBounds_toArray, List.set_cons_zero, List.set_cons_succ, i64_w, i32_w]
              rfl
            refine one_ (i := 2) (N := some 84) #[true, true, true, true, true, true, true, false, false, false, false, false, false, false, false, false] rfl rfl (by kernel_rfl) (by decide) (fun K hK => ?_)
            refine goes_ Try.func18 (by kernel_rfl) rfl #[.slice A5 l.length c5] (by rfl) rfl rfl (by (try simp only [List.map_toArray, List.map_cons, List.map_nil]); first | done | rfl) ?_
            refine (plainC hk5.out hc5.out hlen.out.2).mono ?_
            rintro e w6 ⟨A6, c6, rfl, hp6, hb6⟩
            refine ⟨_, rfl, ?_⟩
            have hcr6 := (hb6.cell (p := ⟨r, 0, none⟩) hrlt5).trans hcr5
            have hpr6 := PlIs.step hpr5.out hb6
            have H6 := H5.out.step hb6
            replace H6 := Lib.hid H6
            replace hp6 := Lib.hid hp6
            replace hpr6 := Lib.hid hpr6
            clear hb6 hcr5 hrlt5 H5 hk5
            refine hK.out _ _ hcr6 (fun hHeld => ?_)
            clear hK K
            refine norm_ (a' := ?_) ?_ ?_
            rotate_left
            · show Act.put _ (some 84) _ = _
              simp only [Act.put, List.setIfInBounds_toArray, List.set_cons_zero, List.set_cons_succ, i64_w, i32_w]
              rfl
            refine last_ (i := 7) (N := some 89) #[true, true, true, true, true, true, true, true, false, false, false, false, false, false, false, false] rfl rfl (by kernel_rfl) (by decide) (fun K hK => ?_)
            refine goes_ Try.func17 (by kernel_rfl) rfl #[.slice A6 l.length c6, .slice AR l.length cR] (by rfl) rfl rfl (by (try simp only [List.map_toArray, List.map_cons, List.map_nil]); first | done | rfl) ?_
            refine (sameC hp6.out hpr6.out hlen.out.2).mono ?_
            rintro e w7 ⟨rfl, hb7⟩
            refine ⟨_, rfl, ?_⟩
            have H7 := H6.out.step hb7
            replace H7 := Lib.hid H7
            clear hb7 hcr6 H6
            refine hK.out _ _ ?_
            clear hK K
            refine norm_ (a' := ?_) ?_ ?_
            rotate_left
            · show Act.put _ (some 89) _ = _
              simp only [Act.put, List.setIfInBounds_toArray, List.set_cons_zero, List.set_cons_succ, i64_w, i32_w]
              rfl
            refine pure_ (i := 8) (N := some 90) (v := ?_) (a' := ?_) #[true, true, true, true, true, true, true, true, true, false, false, false, false, false, false, false] rfl rfl (by kernel_rfl) (fun _ _ _ h => h) (Or.inl ⟨by rfl, ?_⟩) ?_ ?_
            rotate_left
            · intro w'
              go_simp
              first | with_reducible rfl | rfl
            rotate_left
            · simp only [Act.put, List.setIfInBounds_toArray, List.set_cons_zero, List.set_cons_succ, i64_w, i32_w]
              rfl
            refine pure_ (i := 9) (N := some 91) (v := ?_) (a' := ?_) #[true, true, true, true, true, true, true, true, true, true, false, false, false, false, false, false] rfl rfl (by kernel_rfl) (fun _ _ _ h => h) (Or.inl ⟨by rfl, ?_⟩) ?_ ?_
            rotate_left
            · intro w'
              go_simp
              first | with_reducible rfl | rfl
            rotate_left
            · simp only [Act.put, List.setIfInBounds_toArray, List.set_cons_zero, List.set_cons_succ, i64_w, i32_w]
              rfl
            refine pure_ (i := 10) (N := some 92) (v := ?_) (a' := ?_) #[true, true, true, true, true, true, true, true, true, true, true, false, false, false, false, false] rfl rfl (by kernel_rfl) (fun _ _ _ h => h) (Or.inl ⟨by rfl, ?_⟩) ?_ ?_
            rotate_left
            · intro w'
              go_simp
              first | with_reducible rfl | rfl
            rotate_left
            · simp only [Act.put, List.setIfInBounds_toArray, List.set_cons_zero, List.set_cons_succ, i64_w, i32_w]
              rfl
            refine pure_ (i := 12) (N := some 94) (v := ?_) (a' := ?_) #[true, true, true, true, true, true, true, true, true, true, true, false, true, false, false, false] rfl rfl (by kernel_rfl) (fun _ _ _ h => h) (Or.inl ⟨by rfl, ?_⟩) ?_ ?_
            rotate_left
            · intro w'
              go_simp
              first | with_reducible rfl | rfl
            rotate_left
            · simp only [Act.put, List.setIfInBounds_toArray, List.set_cons_zero, List.set_cons_succ, i64_w, i32_w]
              rfl
            refine last_ (i := 11) (N := some 93) #[true, true, true, true, true, true, true, true, true, true, true, true, true, false, false, false] rfl rfl (by kernel_rfl) (by decide) (fun K hK => ?_)
            refine goes_ Try.func20 (by kernel_rfl) rfl #[.pointer (some ⟨g, 0, none⟩)] (by rfl) rfl rfl (by (try simp only [List.map_toArray, List.map_cons, List.map_nil]); first | done | rfl) ?_
            refine (PlayIs.sbest H7.out hlen.out.1).mono ?_
            rintro e w8 ⟨rfl, H8⟩
            refine ⟨_, rfl, ?_⟩
            replace H8 := Lib.hid H8
            clear H7
            refine hK.out _ _ ?_
            clear hK K
            refine norm_ (a' := ?_) ?_ ?_
            rotate_left
            · show Act.put _ (some 93) _ = _
              simp only [Act.put, List.setIfInBounds_toArray, List.set_cons_zero, List.set_cons_succ, i64_w, i32_w]
              rfl
            refine last_ (i := 13) (N := some 95) #[true, true, true, true, true, true, true, true, true, true, true, true, true, true, false, false] rfl rfl (by kernel_rfl) (by decide) (fun K hK => ?_)
            refine goes_ Try.func21 (by kernel_rfl) rfl #[.pointer (some ⟨r, 0, none⟩)] (by rfl) rfl rfl (by (try simp only [List.map_toArray, List.map_cons, List.map_nil]); first | done | rfl) ?_
            refine (PlayIs.rbest H8.out hlen.out.1).mono ?_
            rintro e w9 ⟨rfl, H9⟩
            refine ⟨_, rfl, ?_⟩
            replace H9 := Lib.hid H9
            clear H8
            refine hK.out _ _ ?_
            clear hK K
            refine norm_ (a' := ?_) ?_ ?_
            rotate_left
            · show Act.put _ (some 95) _ = _
              simp only [Act.put, List.setIfInBounds_toArray, List.set_cons_zero, List.set_cons_succ, i64_w, i32_w]
              rfl
            refine pure_ (i := 14) (N := some 96) (v := ?_) (a' := ?_) #[true, true, true, true, true, true, true, true, true, true, true, true, true, true, true, false] rfl rfl (by kernel_rfl) (fun _ _ _ h => h) (Or.inl ⟨by rfl, ?_⟩) ?_ ?_
            rotate_left
            · intro w'
              go_simp
              first | with_reducible rfl | rfl
            rotate_left
            · simp only [Act.put, List.setIfInBounds_toArray, List.set_cons_zero, List.set_cons_succ, i64_w, i32_w]
              rfl
            refine pure_ (i := 15) (N := some 97) (v := ?_) (a' := ?_) #[true, true, true, true, true, true, true, true, true, true, true, true, true, true, true, true] rfl rfl (by kernel_rfl) (fun _ _ _ h => h) (Or.inl ⟨by rfl, ?_⟩) ?_ ?_
            rotate_left
            · intro w'
              go_simp
              first | with_reducible rfl | rfl
            rotate_left
            · simp only [Act.put, List.setIfInBounds_toArray, List.set_cons_zero, List.set_cons_succ, i64_w, i32_w]
              rfl
            refine done_ (by kernel_rfl) ?_
            go_wp2_with fail
            go_roundw
            case rel => exact ⟨k + 1, g, l, by omega, by go_num, rfl, hLlen.out, by omega, hgL.out, H9.out⟩
            case measure => simp [intOf]; omega
        · have t0 : (kd == 0) = false := beq_eq_false_iff_ne.mpr hkd
          by_cases hk1d : kd = 1
          · subst hk1d
            clear hkd
            have hOB := Lib.hid (heap_alloc_new wr (.cells #[.int .i64 1, .int .i64 j0, .int .i64 j1, .int .i64 j2, .int .i64 a, .int .i64 b] 32))
            have HB := Lib.hid (HP.out.step ((Below.refl _ _).alloc (Nat.le_refl _) (.cells #[.int .i64 1, .int .i64 j0, .int .i64 j1, .int .i64 j2, .int .i64 a, .int .i64 b] 32)))
            have hl4 := Lib.hid (show l.length ≤ 10000 by omega)
            by_cases ht : mxp l = 0 ∨ mxp l ≤ a
            · have ht2 : (places l (mxp l)).length = 0 ∨ mxp l ≤ a := by
                rcases ht with h | h
                · left
                  rw [mxp_zero hgood.out h]
                  rfl
                · exact .inr h
              replace ht := Lib.hid ht
              replace ht2 := Lib.hid ht2
              go_wp2_with fail
              refine (PlayIs.stakeNo HB.out hl4.out a b ht2.out).mono ?_
              rintro e w4 ⟨rfl, H4, hk4⟩
              have hOB4 := (Below.heap_alloc w4 (.cells #[.int .i64 0, .int .i64 0, .int .i64 0] 30) wr.heap.size (blk_lt (hk4 _ _ _ hOB.out (by decide) (by decide)))).trans (hk4 _ _ _ hOB.out (by decide) (by decide))
              have f4 : _ = some (Value.int .i64 a) := (blk_cell hOB4 4).trans rfl
              have f5 : _ = some (Value.int .i64 b) := (blk_cell hOB4 5).trans rfl
              have hB7 := Lib.hid (heap_alloc_new w4 (.cells #[.int .i64 0, .int .i64 0, .int .i64 0] 30))
              have H5 := Lib.hid (H4.step ((Below.refl _ _).alloc (Nat.le_refl _) (.cells #[.int .i64 0, .int .i64 0, .int .i64 0] 30)))
              clear hk4 hOB4 H4 hOB
              go_wp2_with fail
              refine (PlayIs.rtakeNo H5.out hl4.out a b ht.out).mono ?_
              rintro e w6 ⟨rfl, H6, hk6⟩
              clear f4 f5
              have hB7b := hk6 _ _ _ hB7.out (by decide) (by decide)
              have hB7c := (Below.heap_alloc w6 (.cells #[.int .i64 0, .int .i64 0, .int .i64 0] 36) w4.heap.size (blk_lt hB7b)).trans hB7b
              have hB9 := heap_alloc_new w6 (.cells #[.int .i64 0, .int .i64 0, .int .i64 0] 36)
              have HQ0 := Lib.hid (H6.step ((Below.refl _ _).alloc (Nat.le_refl _) (.cells #[.int .i64 0, .int .i64 0, .int .i64 0] 36)))
              replace hB7c := Lib.hid hB7c
              replace hB9 := Lib.hid hB9
              clear hk6 hB7b hB7 H6
              go_wp2_with fail
              refine start_ (n := 9) (S := fun w' => (w'.cell? ⟨w4.heap.size, 0, none⟩ = some (.int .i64 0) ∧ w'.cell? ⟨w4.heap.size, 1, none⟩ = some (.int .i64 0) ∧ w'.cell? ⟨w4.heap.size, 2, none⟩ = some (.int .i64 0)) ∧ w'.cell? ⟨w6.heap.size, 0, none⟩ = some (.int .i64 0) ∧ w'.cell? ⟨w6.heap.size, 1, none⟩ = some (.int .i64 0) ∧ w'.cell? ⟨w6.heap.size, 2, none⟩ = some (.int .i64 0)) (ds := []) #[false, false, false, false, false, false, false, false, false] (by kernel_rfl) rfl rfl ⟨⟨(blk_cell hB7c.out 0).trans rfl, (blk_cell hB7c.out 1).trans rfl, (blk_cell hB7c.out 2).trans rfl⟩, (blk_cell hB9.out 0).trans rfl, (blk_cell hB9.out 1).trans rfl, (blk_cell hB9.out 2).trans rfl⟩ (fun hHeld => ?_)
              refine take_ (i := 0) (N := some 73) (v := ?_) (a' := ?_) #[true, false, false, false, false, false, false, false, false] rfl rfl (by kernel_rfl) (fun _ _ _ h => h) (Or.inl ⟨by rfl, ?_⟩) hHeld ?_ ?_
              rotate_left
              · rintro w' ⟨⟨s0, s1, s2⟩, s3, s4, s5⟩
                go_simp
                first | with_reducible rfl | rfl
              rotate_left
              · simp only [Act.put, List.setIfInBounds_toArray, List.set_cons_zero, List.set_cons_succ, i64_w, i32_w]
                rfl
              refine take_ (i := 2) (N := some 75) (v := ?_) (a' := ?_) #[true, false, true, false, false, false, false, false, false] rfl rfl (by kernel_rfl) (fun _ _ _ h => h) (Or.inl ⟨by rfl, ?_⟩) hHeld ?_ ?_
              rotate_left
              · rintro w' ⟨⟨s0, s1, s2⟩, s3, s4, s5⟩
                go_simp
                first | with_reducible rfl | rfl
              rotate_left
              · simp only [Act.put, List.setIfInBounds_toArray, List.set_cons_zero, List.set_cons_succ, i64_w, i32_w]
                rfl
              refine one_ (i := 1) (N := some 74) #[true, true, true, false, false, false, false, false, false] rfl rfl (by kernel_rfl) (by decide) (fun K hK => ?_)
              refine goes_ Try.func13 (by kernel_rfl) rfl #[.agg #[.int .i64 0, .int .i64 0, .int .i64 0]] (by rfl) rfl rfl (by (try simp only [List.map_toArray, List.map_cons, List.map_nil]); first | done | rfl) ?_
              refine (camshaftlaw17_one.calls 0 0 0 0 0 0 _ rfl).mono ?_
              rintro e w7 ⟨rfl, hb7⟩
              refine ⟨_, rfl, ?_⟩
              have g7 := (hb7.block _ (blk_lt hB7c.out)).trans hB7c.out
              have g9 := (hb7.block _ (blk_lt hB9.out)).trans hB9.out
              have HQ := Lib.hid ((HQ0.out.step (Below.refl _ _).drew).step hb7)
              replace g7 := Lib.hid g7
              replace g9 := Lib.hid g9
              clear hb7 hB7c hB9 HQ0
              refine hK.out _ _ ⟨⟨(blk_cell g7.out 0).trans rfl, (blk_cell g7.out 1).trans rfl, (blk_cell g7.out 2).trans rfl⟩, (blk_cell g9.out 0).trans rfl, (blk_cell g9.out 1).trans rfl, (blk_cell g9.out 2).trans rfl⟩ (fun hHeld => ?_)
              clear hK K
              refine norm_ (a' := ?_) ?_ ?_
              rotate_left
              · show Act.put _ (some 74) _ = _
                simp only [Act.put, List.setIfInBounds_toArray, List.set_cons_zero, List.set_cons_succ, i64_w, i32_w]
                rfl
              refine pure_ (i := 3) (N := some 76) (v := ?_) (a' := ?_) #[true, true, true, true, false, false, false, false, false] rfl rfl (by kernel_rfl) (fun _ _ _ h => h) (Or.inl ⟨by rfl, ?_⟩) ?_ ?_
              rotate_left
              · intro w'
                go_simp
                first | with_reducible rfl | rfl
              rotate_left
              · simp only [Act.put, List.setIfInBounds_toArray, List.set_cons_zero, List.set_cons_succ, i64_w, i32_w]
                rfl
              refine pure_ (i := 4) (N := some 77) (v := ?_) (a' := ?_) #[true, true, true, true, true, false, false, false, false] rfl rfl (by kernel_rfl) (fun _ _ _ h => h) (Or.inl ⟨by rfl, ?_⟩) ?_ ?_
              rotate_left
              · intro w'
                go_simp
                first | with_reducible rfl | rfl
              rotate_left
              · simp only [Act.put, List.setIfInBounds_toArray, List.set_cons_zero, List.set_cons_succ, i64_w, i32_w]
                rfl
              refine pure_ (i := 5) (N := some 78) (v := ?_) (a' := ?_) #[true, true, true, true, true, true, false, false, false] rfl rfl (by kernel_rfl) (fun _ _ _ h => h) (Or.inl ⟨by rfl, ?_⟩) ?_ ?_
              rotate_left
              · intro w'
                go_simp
                first | with_reducible rfl | rfl
              rotate_left
              · simp only [Act.put, List.setIfInBounds_toArray, List.set_cons_zero, List.set_cons_succ, i64_w, i32_w]
                rfl
              refine pure_ (i := 6) (N := some 79) (v := ?_) (a' := ?_) #[true, true, true, true, true, true, true, false, false] rfl rfl (by kernel_rfl) (fun _ _ _ h => h) (Or.inl ⟨by rfl, ?_⟩) ?_ ?_
              rotate_left
              · intro w'
                go_simp
                first | with_reducible rfl | rfl
              rotate_left
              · simp only [Act.put, List.setIfInBounds_toArray, List.set_cons_zero, List.set_cons_succ, i64_w, i32_w]
                rfl
              refine pure_ (i := 7) (N := some 80) (v := ?_) (a' := ?_) #[true, true, true, true, true, true, true, true, false] rfl rfl (by kernel_rfl) (fun _ _ _ h => h) (Or.inl ⟨by rfl, ?_⟩) ?_ ?_
              rotate_left
              · intro w'
                go_simp
                first | with_reducible rfl | rfl
              rotate_left
              · simp only [Act.put, List.setIfInBounds_toArray, List.set_cons_zero, List.set_cons_succ, i64_w, i32_w]
                rfl
              refine pure_ (i := 8) (N := some 81) (v := ?_) (a' := ?_) #[true, true, true, true, true, true, true, true, true] rfl rfl (by kernel_rfl) (fun _ _ _ h => h) (Or.inl ⟨by rfl, ?_⟩) ?_ ?_
              rotate_left
              · intro w'
                go_simp
                first | with_reducible rfl | rfl
              rotate_left
              · simp only [Act.put, List.setIfInBounds_toArray, List.set_cons_zero, List.set_cons_succ, i64_w, i32_w]
                rfl
              refine done_ (by kernel_rfl) ?_
              clear g7 g9
              have hgL := hgood
              have hLlen : l.length ≤ k + 1 := by omega
              have hLb : l.length ≤ 101 := by omega
              replace hLlen := Lib.hid hLlen
              obtain ⟨AR, cR, hcr, hpr⟩ := HQ.out.refRow (by omega)
              have hrlt := World.block_lt_of_cell? _ _ hcr
              have hlen : Hid (l.length ≤ 10000 ∧ l.length ≤ 100000) := Lib.hid ⟨by omega, by omega⟩
              replace hpr := Lib.hid hpr
              go_wp2_with fail
              refine start_ (n := 16) (S := fun w' => w'.cell? ⟨r, 0, none⟩ = some (.slice AR l.length cR)) (ds := [7, 11, 13]) #[false, false, false, false, false, false, false, false, false, false, false, false, false, false, false, false] (by kernel_rfl) rfl rfl hcr (fun hHeld => ?_)
              refine pure_ (i := 0) (N := some 82) (v := ?_) (a' := ?_) #[true, false, false, false, false, false, false, false, false, false, false, false, false, false, false, false] rfl rfl (by kernel_rfl) (fun _ _ _ h => h) (Or.inl ⟨by rfl, ?_⟩) ?_ ?_
              rotate_left
              · intro w'
                go_simp
                first | with_reducible rfl | rfl
              rotate_left
              · simp only [Act.put, List.setIfInBounds_toArray, List.set_cons_zero, List.set_cons_succ, i64_w, i32_w]
                rfl
              refine pure_ (i := 3) (N := some 85) (v := ?_) (a' := ?_) #[true, false, false, true, false, false, false, false, false, false, false, false, false, false, false, false] rfl rfl (by kernel_rfl) (fun _ _ _ h => h) (Or.inl ⟨by rfl, ?_⟩) ?_ ?_
              rotate_left
              · intro w'
                go_simp
                first | with_reducible rfl | rfl
              rotate_left
              · simp only [Act.put, List.setIfInBounds_toArray, List.set_cons_zero, List.set_cons_succ, i64_w, i32_w]
                rfl
              refine pure_ (i := 4) (N := some 86) (v := ?_) (a' := ?_) #[true, false, false, true, true, false, false, false, false, false, false, false, false, false, false, false] rfl rfl (by kernel_rfl) (fun _ _ _ h => h) (Or.inl ⟨by rfl, ?_⟩) ?_ ?_
              rotate_left
              · intro w'
                go_simp
                first | with_reducible rfl | rfl
              rotate_left
              · simp only [Act.put, List.setIfInBounds_toArray, List.set_cons_zero, List.set_cons_succ, i64_w, i32_w]
                rfl
              refine pure_ (i := 5) (N := some 87) (v := ?_) (a' := ?_) #[true, false, false, true, true, true, false, false, false, false, false, false, false, false, false, false] rfl rfl (by kernel_rfl) (fun _ _ _ h => h) (Or.inl ⟨by rfl, ?_⟩) ?_ ?_
              rotate_left
              · intro w'
                go_simp
                first | with_reducible rfl | rfl
              rotate_left
              · simp only [Act.put, List.setIfInBounds_toArray, List.set_cons_zero, List.set_cons_succ, i64_w, i32_w]
                rfl
              refine take_ (i := 6) (N := some 88) (v := ?_) (a' := ?_) #[true, false, false, true, true, true, true, false, false, false, false, false, false, false, false, false] rfl rfl (by kernel_rfl) (fun _ _ _ h => h) (Or.inl ⟨by rfl, ?_⟩) hHeld ?_ ?_
              rotate_left
              · rintro w' s0
                go_simp
                first | with_reducible rfl | rfl
              rotate_left
              · simp only [Act.put, List.setIfInBounds_toArray, List.set_cons_zero, List.set_cons_succ, i64_w, i32_w]
                rfl
              refine one_ (i := 1) (N := some 83) #[true, true, false, true, true, true, true, false, false, false, false, false, false, false, false, false] rfl rfl (by kernel_rfl) (by decide) (fun K hK => ?_)
              refine goes_ Try.func19 (by kernel_rfl) rfl #[.pointer (some ⟨g, 0, none⟩)] (by rfl) rfl rfl (by (try simp only [List.map_toArray, List.map_cons, List.map_nil]); first | done | rfl) ?_
              refine (PlayIs.all (HQ.out.step (Below.refl _ _).drew) hlen.out.1).mono ?_
              rintro e w5 ⟨A5, c5, hc5, rfl, H5, hk5, hb5⟩
              refine ⟨_, rfl, ?_⟩
              have hcr5 := (hb5.cell (p := ⟨r, 0, none⟩) hrlt).trans hcr
              have hrlt5 := World.block_lt_of_cell? _ _ hcr5
              have hpr5 := PlIs.step (PlIs.step hpr.out (Below.refl _ _).drew) hb5
              replace H5 := Lib.hid H5
              replace hk5 := Lib.hid hk5
              replace hpr5 := Lib.hid hpr5
              replace hc5 := Lib.hid hc5
              clear hb5 hcr hrlt
              refine hK.out _ _ hcr5 (fun hHeld => ?_)
              clear hK K
              refine norm_ (a' := ?_) ?_ ?_
              rotate_left
              · show Act.put _ (some 83) _ = _
                simp only [Act.put, List.setIfInBounds_toArray, List.set_cons_zero, List.set_cons_succ, i64_w, i32_w]
                rfl
              refine one_ (i := 2) (N := some 84) #[true, true, true, true, true, true, true, false, false, false, false, false, false, false, false, false] rfl rfl (by kernel_rfl) (by decide) (fun K hK => ?_)
              refine goes_ Try.func18 (by kernel_rfl) rfl #[.slice A5 l.length c5] (by rfl) rfl rfl (by (try simp only [List.map_toArray, List.map_cons, List.map_nil]); first | done | rfl) ?_
              refine (plainC hk5.out hc5.out hlen.out.2).mono ?_
              rintro e w6 ⟨A6, c6, rfl, hp6, hb6⟩
              refine ⟨_, rfl, ?_⟩
              have hcr6 := (hb6.cell (p := ⟨r, 0, none⟩) hrlt5).trans hcr5
              have hpr6 := PlIs.step hpr5.out hb6
              have H6 := H5.out.step hb6
              replace H6 := Lib.hid H6
              replace hp6 := Lib.hid hp6
              replace hpr6 := Lib.hid hpr6
              clear hb6 hcr5 hrlt5 H5 hk5
              refine hK.out _ _ hcr6 (fun hHeld => ?_)
              clear hK K
              refine norm_ (a' := ?_) ?_ ?_
              rotate_left
              · show Act.put _ (some 84) _ = _
                simp only [Act.put, List.setIfInBounds_toArray, List.set_cons_zero, List.set_cons_succ, i64_w, i32_w]
                rfl
              refine last_ (i := 7) (N := some 89) #[true, true, true, true, true, true, true, true, false, false, false, false, false, false, false, false] rfl rfl (by kernel_rfl) (by decide) (fun K hK => ?_)
              refine goes_ Try.func17 (by kernel_rfl) rfl #[.slice A6 l.length c6, .slice AR l.length cR] (by rfl) rfl rfl (by (try simp only [List.map_toArray, List.map_cons, List.map_nil]); first | done | rfl) ?_
              refine (sameC hp6.out hpr6.out hlen.out.2).mono ?_
              rintro e w7 ⟨rfl, hb7⟩
              refine ⟨_, rfl, ?_⟩
              have H7 := H6.out.step hb7
              replace H7 := Lib.hid H7
              clear hb7 hcr6 H6
              refine hK.out _ _ ?_
              clear hK K
              refine norm_ (a' := ?_) ?_ ?_
              rotate_left
              · show Act.put _ (some 89) _ = _
                simp only [Act.put, List.setIfInBounds_toArray, List.set_cons_zero, List.set_cons_succ, i64_w, i32_w]
                rfl
              refine pure_ (i := 8) (N := some 90) (v := ?_) (a' := ?_) #[true, true, true, true, true, true, true, true, true, false, false, false, false, false, false, false] rfl rfl (by kernel_rfl) (fun _ _ _ h => h) (Or.inl ⟨by rfl, ?_⟩) ?_ ?_
              rotate_left
              · intro w'
                go_simp
                first | with_reducible rfl | rfl
              rotate_left
              · simp only [Act.put, List.setIfInBounds_toArray, List.set_cons_zero, List.set_cons_succ, i64_w, i32_w]
                rfl
              refine pure_ (i := 9) (N := some 91) (v := ?_) (a' := ?_) #[true, true, true, true, true, true, true, true, true, true, false, false, false, false, false, false] rfl rfl (by kernel_rfl) (fun _ _ _ h => h) (Or.inl ⟨by rfl, ?_⟩) ?_ ?_
              rotate_left
              · intro w'
                go_simp
                first | with_reducible rfl | rfl
              rotate_left
              · simp only [Act.put, List.setIfInBounds_toArray, List.set_cons_zero, List.set_cons_succ, i64_w, i32_w]
                rfl
              refine pure_ (i := 10) (N := some 92) (v := ?_) (a' := ?_) #[true, true, true, true, true, true, true, true, true, true, true, false, false, false, false, false] rfl rfl (by kernel_rfl) (fun _ _ _ h => h) (Or.inl ⟨by rfl, ?_⟩) ?_ ?_
              rotate_left
              · intro w'
                go_simp
                first | with_reducible rfl | rfl
              rotate_left
              · simp only [Act.put, List.setIfInBounds_toArray, List.set_cons_zero, List.set_cons_succ, i64_w, i32_w]
                rfl
              refine pure_ (i := 12) (N := some 94) (v := ?_) (a' := ?_) #[true, true, true, true, true, true, true, true, true, true, true, false, true, false, false, false] rfl rfl (by kernel_rfl) (fun _ _ _ h => h) (Or.inl ⟨by rfl, ?_⟩) ?_ ?_
              rotate_left
              · intro w'
                go_simp
                first | with_reducible rfl | rfl
              rotate_left
              · simp only [Act.put, List.setIfInBounds_toArray, List.set_cons_zero, List.set_cons_succ, i64_w, i32_w]
                rfl
              refine last_ (i := 11) (N := some 93) #[true, true, true, true, true, true, true, true, true, true, true, true, true, false, false, false] rfl rfl (by kernel_rfl) (by decide) (fun K hK => ?_)
              refine goes_ Try.func20 (by kernel_rfl) rfl #[.pointer (some ⟨g, 0, none⟩)] (by rfl) rfl rfl (by (try simp only [List.map_toArray, List.map_cons, List.map_nil]); first | done | rfl) ?_
              refine (PlayIs.sbest H7.out hlen.out.1).mono ?_
              rintro e w8 ⟨rfl, H8⟩
              refine ⟨_, rfl, ?_⟩
              replace H8 := Lib.hid H8
              clear H7
              refine hK.out _ _ ?_
              clear hK K
              refine norm_ (a' := ?_) ?_ ?_
              rotate_left
              · show Act.put _ (some 93) _ = _
                simp only [Act.put, List.setIfInBounds_toArray, List.set_cons_zero, List.set_cons_succ, i64_w, i32_w]
                rfl
              refine last_ (i := 13) (N := some 95) #[true, true, true, true, true, true, true, true, true, true, true, true, true, true, false, false] rfl rfl (by kernel_rfl) (by decide) (fun K hK => ?_)
              refine goes_ Try.func21 (by kernel_rfl) rfl #[.pointer (some ⟨r, 0, none⟩)] (by rfl) rfl rfl (by (try simp only [List.map_toArray, List.map_cons, List.map_nil]); first | done | rfl) ?_
              refine (PlayIs.rbest H8.out hlen.out.1).mono ?_
              rintro e w9 ⟨rfl, H9⟩
              refine ⟨_, rfl, ?_⟩
              replace H9 := Lib.hid H9
              clear H8
              refine hK.out _ _ ?_
              clear hK K
              refine norm_ (a' := ?_) ?_ ?_
              rotate_left
              · show Act.put _ (some 95) _ = _
                simp only [Act.put, List.setIfInBounds_toArray, List.set_cons_zero, List.set_cons_succ, i64_w, i32_w]
                rfl
              refine pure_ (i := 14) (N := some 96) (v := ?_) (a' := ?_) #[true, true, true, true, true, true, true, true, true, true, true, true, true, true, true, false] rfl rfl (by kernel_rfl) (fun _ _ _ h => h) (Or.inl ⟨by rfl, ?_⟩) ?_ ?_
              rotate_left
              · intro w'
                go_simp
                first | with_reducible rfl | rfl
              rotate_left
              · simp only [Act.put, List.setIfInBounds_toArray, List.set_cons_zero, List.set_cons_succ, i64_w, i32_w]
                rfl
              refine pure_ (i := 15) (N := some 97) (v := ?_) (a' := ?_) #[true, true, true, true, true, true, true, true, true, true, true, true, true, true, true, true] rfl rfl (by kernel_rfl) (fun _ _ _ h => h) (Or.inl ⟨by rfl, ?_⟩) ?_ ?_
              rotate_left
              · intro w'
                go_simp
                first | with_reducible rfl | rfl
              rotate_left
              · simp only [Act.put, List.setIfInBounds_toArray, List.set_cons_zero, List.set_cons_succ, i64_w, i32_w]
                rfl
              refine done_ (by kernel_rfl) ?_
              go_wp2_with fail
              go_roundw
              case rel => exact ⟨k + 1, g, l, by omega, by go_num, rfl, hLlen.out, by omega, hgL.out, H9.out⟩
              case measure => simp [intOf]; omega
            · have hm0 : 0 < mxp l := by have := mxp_nonneg l; omega
              have ham : a < mxp l := by omega
              have h0 := places_pos hm0
              have hS : ∀ W, PlayIs w W g r l l → Calls Try.prog 14 #[.pointer (some ⟨g, 0, none⟩), .int .i64 a, .int .i64 b] W fun e w' => e = .returned (.tuple #[.agg #[.int .i64 (l.getD (pickPlace l b) z30).f0, .int .i64 (l.getD (pickPlace l b) z30).f1, .int .i64 (l.getD (pickPlace l b) z30).f2], .bool true]) ∧ PlayIs w w' g r (l.eraseIdx (pickPlace l b)) l ∧ KeepS W w' :=
                fun W h => (h.stake hl4.out a b h0 ham).mono (fun _ _ h => ⟨h.1, h.2⟩)
              have hR2 : ∀ W, PlayIs w W g r (l.eraseIdx (pickPlace l b)) l → Calls Try.prog 15 #[.pointer (some ⟨r, 0, none⟩), .int .i64 a, .int .i64 b] W fun e w' => e = .returned (.tuple #[.agg #[.int .i64 (l.getD (pickPlace l b) z30).f0, .int .i64 (l.getD (pickPlace l b) z30).f1, .int .i64 (l.getD (pickPlace l b) z30).f2], .bool true]) ∧ PlayIs w w' g r (l.eraseIdx (pickPlace l b)) (l.eraseIdx (pickPlace l b)) ∧ KeepR W w' :=
                fun W h => (h.rtake hl4.out a b h0 hm0 ham).mono (fun _ _ h => ⟨h.1, h.2⟩)
              have hgL := Lib.hid (hgood.out.erase (pickPlace l b))
              have hll : (l.eraseIdx (pickPlace l b)).length ≤ k + 1 := by
                have := (List.eraseIdx_sublist l (pickPlace l b)).length_le
                omega
              generalize (l.getD (pickPlace l b) z30).f0 = x0 at *
              generalize (l.getD (pickPlace l b) z30).f1 = x1 at *
              generalize (l.getD (pickPlace l b) z30).f2 = x2 at *
              generalize l.eraseIdx (pickPlace l b) = me at *
              clear ht hm0 ham h0
              replace hS := Lib.hid hS
              replace hR2 := Lib.hid hR2
              go_wp2_with fail
              refine (hS.out _ HB.out).mono ?_
              rintro e w4 ⟨rfl, H4, hk4⟩
              have hOB4 := (Below.heap_alloc w4 (.cells #[.int .i64 x0, .int .i64 x1, .int .i64 x2] 30) wr.heap.size (blk_lt (hk4 _ _ _ hOB.out (by decide) (by decide)))).trans (hk4 _ _ _ hOB.out (by decide) (by decide))
              have f4 : _ = some (Value.int .i64 a) := (blk_cell hOB4 4).trans rfl
              have f5 : _ = some (Value.int .i64 b) := (blk_cell hOB4 5).trans rfl
              have hB7 := Lib.hid (heap_alloc_new w4 (.cells #[.int .i64 x0, .int .i64 x1, .int .i64 x2] 30))
              have H5 := Lib.hid (H4.step ((Below.refl _ _).alloc (Nat.le_refl _) (.cells #[.int .i64 x0, .int .i64 x1, .int .i64 x2] 30)))
              clear hk4 hOB4 H4 hOB
              go_wp2_with fail
              refine (hR2.out _ H5.out).mono ?_
              rintro e w6 ⟨rfl, H6, hk6⟩
              clear f4 f5
              have hB7b := hk6 _ _ _ hB7.out (by decide) (by decide)
              have hB7c := (Below.heap_alloc w6 (.cells #[.int .i64 x0, .int .i64 x1, .int .i64 x2] 36) w4.heap.size (blk_lt hB7b)).trans hB7b
              have hB9 := heap_alloc_new w6 (.cells #[.int .i64 x0, .int .i64 x1, .int .i64 x2] 36)
              have HQ0 := Lib.hid (H6.step ((Below.refl _ _).alloc (Nat.le_refl _) (.cells #[.int .i64 x0, .int .i64 x1, .int .i64 x2] 36)))
              replace hB7c := Lib.hid hB7c
              replace hB9 := Lib.hid hB9
              clear hk6 hB7b hB7 H6
              go_wp2_with fail
              refine start_ (n := 9) (S := fun w' => (w'.cell? ⟨w4.heap.size, 0, none⟩ = some (.int .i64 x0) ∧ w'.cell? ⟨w4.heap.size, 1, none⟩ = some (.int .i64 x1) ∧ w'.cell? ⟨w4.heap.size, 2, none⟩ = some (.int .i64 x2)) ∧ w'.cell? ⟨w6.heap.size, 0, none⟩ = some (.int .i64 x0) ∧ w'.cell? ⟨w6.heap.size, 1, none⟩ = some (.int .i64 x1) ∧ w'.cell? ⟨w6.heap.size, 2, none⟩ = some (.int .i64 x2)) (ds := []) #[false, false, false, false, false, false, false, false, false] (by kernel_rfl) rfl rfl ⟨⟨(blk_cell hB7c.out 0).trans rfl, (blk_cell hB7c.out 1).trans rfl, (blk_cell hB7c.out 2).trans rfl⟩, (blk_cell hB9.out 0).trans rfl, (blk_cell hB9.out 1).trans rfl, (blk_cell hB9.out 2).trans rfl⟩ (fun hHeld => ?_)
              refine take_ (i := 0) (N := some 73) (v := ?_) (a' := ?_) #[true, false, false, false, false, false, false, false, false] rfl rfl (by kernel_rfl) (fun _ _ _ h => h) (Or.inl ⟨by rfl, ?_⟩) hHeld ?_ ?_
              rotate_left
              · rintro w' ⟨⟨s0, s1, s2⟩, s3, s4, s5⟩
                go_simp
                first | with_reducible rfl | rfl
              rotate_left
              · simp only [Act.put, List.setIfInBounds_toArray, List.set_cons_zero, List.set_cons_succ, i64_w, i32_w]
                rfl
              refine take_ (i := 2) (N := some 75) (v := ?_) (a' := ?_) #[true, false, true, false, false, false, false, false, false] rfl rfl (by kernel_rfl) (fun _ _ _ h => h) (Or.inl ⟨by rfl, ?_⟩) hHeld ?_ ?_
              rotate_left
              · rintro w' ⟨⟨s0, s1, s2⟩, s3, s4, s5⟩
                go_simp
                first | with_reducible rfl | rfl
              rotate_left
              · simp only [Act.put, List.setIfInBounds_toArray, List.set_cons_zero, List.set_cons_succ, i64_w, i32_w]
                rfl
              refine one_ (i := 1) (N := some 74) #[true, true, true, false, false, false, false, false, false] rfl rfl (by kernel_rfl) (by decide) (fun K hK => ?_)
              refine goes_ Try.func13 (by kernel_rfl) rfl #[.agg #[.int .i64 x0, .int .i64 x1, .int .i64 x2]] (by rfl) rfl rfl (by (try simp only [List.map_toArray, List.map_cons, List.map_nil]); first | done | rfl) ?_
              refine (camshaftlaw17_one.calls x0 x1 x2 x0 x1 x2 _ rfl).mono ?_
              rintro e w7 ⟨rfl, hb7⟩
              refine ⟨_, rfl, ?_⟩
              have g7 := (hb7.block _ (blk_lt hB7c.out)).trans hB7c.out
              have g9 := (hb7.block _ (blk_lt hB9.out)).trans hB9.out
              have HQ := Lib.hid ((HQ0.out.step (Below.refl _ _).drew).step hb7)
              replace g7 := Lib.hid g7
              replace g9 := Lib.hid g9
              clear hb7 hB7c hB9 HQ0
              refine hK.out _ _ ⟨⟨(blk_cell g7.out 0).trans rfl, (blk_cell g7.out 1).trans rfl, (blk_cell g7.out 2).trans rfl⟩, (blk_cell g9.out 0).trans rfl, (blk_cell g9.out 1).trans rfl, (blk_cell g9.out 2).trans rfl⟩ (fun hHeld => ?_)
              clear hK K
              refine norm_ (a' := ?_) ?_ ?_
              rotate_left
              · show Act.put _ (some 74) _ = _
                simp only [Act.put, List.setIfInBounds_toArray, List.set_cons_zero, List.set_cons_succ, i64_w, i32_w]
                rfl
              refine pure_ (i := 3) (N := some 76) (v := ?_) (a' := ?_) #[true, true, true, true, false, false, false, false, false] rfl rfl (by kernel_rfl) (fun _ _ _ h => h) (Or.inl ⟨by rfl, ?_⟩) ?_ ?_
              rotate_left
              · intro w'
                go_simp
                first | with_reducible rfl | rfl
              rotate_left
              · simp only [Act.put, List.setIfInBounds_toArray, List.set_cons_zero, List.set_cons_succ, i64_w, i32_w]
                rfl
              refine pure_ (i := 4) (N := some 77) (v := ?_) (a' := ?_) #[true, true, true, true, true, false, false, false, false] rfl rfl (by kernel_rfl) (fun _ _ _ h => h) (Or.inl ⟨by rfl, ?_⟩) ?_ ?_
              rotate_left
              · intro w'
                go_simp
                first | with_reducible rfl | rfl
              rotate_left
              · simp only [Act.put, List.setIfInBounds_toArray, List.set_cons_zero, List.set_cons_succ, i64_w, i32_w]
                rfl
              refine pure_ (i := 5) (N := some 78) (v := ?_) (a' := ?_) #[true, true, true, true, true, true, false, false, false] rfl rfl (by kernel_rfl) (fun _ _ _ h => h) (Or.inl ⟨by rfl, ?_⟩) ?_ ?_
              rotate_left
              · intro w'
                go_simp
                first | with_reducible rfl | rfl
              rotate_left
              · simp only [Act.put, List.setIfInBounds_toArray, List.set_cons_zero, List.set_cons_succ, i64_w, i32_w]
                rfl
              refine pure_ (i := 6) (N := some 79) (v := ?_) (a' := ?_) #[true, true, true, true, true, true, true, false, false] rfl rfl (by kernel_rfl) (fun _ _ _ h => h) (Or.inl ⟨by rfl, ?_⟩) ?_ ?_
              rotate_left
              · intro w'
                go_simp
                first | with_reducible rfl | rfl
              rotate_left
              · simp only [Act.put, List.setIfInBounds_toArray, List.set_cons_zero, List.set_cons_succ, i64_w, i32_w]
                rfl
              refine pure_ (i := 7) (N := some 80) (v := ?_) (a' := ?_) #[true, true, true, true, true, true, true, true, false] rfl rfl (by kernel_rfl) (fun _ _ _ h => h) (Or.inl ⟨by rfl, ?_⟩) ?_ ?_
              rotate_left
              · intro w'
                go_simp
                first | with_reducible rfl | rfl
              rotate_left
              · simp only [Act.put, List.setIfInBounds_toArray, List.set_cons_zero, List.set_cons_succ, i64_w, i32_w]
                rfl
              refine pure_ (i := 8) (N := some 81) (v := ?_) (a' := ?_) #[true, true, true, true, true, true, true, true, true] rfl rfl (by kernel_rfl) (fun _ _ _ h => h) (Or.inl ⟨by rfl, ?_⟩) ?_ ?_
              rotate_left
              · intro w'
                go_simp
                first | with_reducible rfl | rfl
              rotate_left
              · simp only [Act.put, List.setIfInBounds_toArray, List.set_cons_zero, List.set_cons_succ, i64_w, i32_w]
                rfl
              refine done_ (by kernel_rfl) ?_
              clear g7 g9
              have hLlen : me.length ≤ k + 1 := hll
              have hLb : me.length ≤ 101 := by omega
              replace hLlen := Lib.hid hLlen
              obtain ⟨AR, cR, hcr, hpr⟩ := HQ.out.refRow (by omega)
              have hrlt := World.block_lt_of_cell? _ _ hcr
              have hlen : Hid (me.length ≤ 10000 ∧ me.length ≤ 100000) := Lib.hid ⟨by omega, by omega⟩
              replace hpr := Lib.hid hpr
              go_wp2_with fail
              refine start_ (n := 16) (S := fun w' => w'.cell? ⟨r, 0, none⟩ = some (.slice AR me.length cR)) (ds := [7, 11, 13]) #[false, false, false, false, false, false, false, false, false, false, false, false, false, false, false, false] (by kernel_rfl) rfl rfl hcr (fun hHeld => ?_)
              refine pure_ (i := 0) (N := some 82) (v := ?_) (a' := ?_) #[true, false, false, false, false, false, false, false, false, false, false, false, false, false, false, false] rfl rfl (by kernel_rfl) (fun _ _ _ h => h) (Or.inl ⟨by rfl, ?_⟩) ?_ ?_
              rotate_left
              · intro w'
                go_simp
                first | with_reducible rfl | rfl
              rotate_left
              · simp only [Act.put, List.setIfInBounds_toArray, List.set_cons_zero, List.set_cons_succ, i64_w, i32_w]
                rfl
              refine pure_ (i := 3) (N := some 85) (v := ?_) (a' := ?_) #[true, false, false, true, false, false, false, false, false, false, false, false, false, false, false, false] rfl rfl (by kernel_rfl) (fun _ _ _ h => h) (Or.inl ⟨by rfl, ?_⟩) ?_ ?_
              rotate_left
              · intro w'
                go_simp
                first | with_reducible rfl | rfl
              rotate_left
              · simp only [Act.put, List.setIfInBounds_toArray, List.set_cons_zero, List.set_cons_succ, i64_w, i32_w]
                rfl
              refine pure_ (i := 4) (N := some 86) (v := ?_) (a' := ?_) #[true, false, false, true, true, false, false, false, false, false, false, false, false, false, false, false] rfl rfl (by kernel_rfl) (fun _ _ _ h => h) (Or.inl ⟨by rfl, ?_⟩) ?_ ?_
              rotate_left
              · intro w'
                go_simp
                first | with_reducible rfl | rfl
              rotate_left
              · simp only [Act.put, List.setIfInBounds_toArray, List.set_cons_zero, List.set_cons_succ, i64_w, i32_w]
                rfl
              refine pure_ (i := 5) (N := some 87) (v := ?_) (a' := ?_) #[true, false, false, true, true, true, false, false, false, false, false, false, false, false, false, false] rfl rfl (by kernel_rfl) (fun _ _ _ h => h) (Or.inl ⟨by rfl, ?_⟩) ?_ ?_
              rotate_left
              · intro w'
                go_simp
                first | with_reducible rfl | rfl
              rotate_left
              · simp only [Act.put, List.setIfInBounds_toArray, List.set_cons_zero, List.set_cons_succ, i64_w, i32_w]
                rfl
              refine take_ (i := 6) (N := some 88) (v := ?_) (a' := ?_) #[true, false, false, true, true, true, true, false, false, false, false, false, false, false, false, false] rfl rfl (by kernel_rfl) (fun _ _ _ h => h) (Or.inl ⟨by rfl, ?_⟩) hHeld ?_ ?_
              rotate_left
              · rintro w' s0
                go_simp
                first | with_reducible rfl | rfl
              rotate_left
              · simp only [Act.put, List.setIfInBounds_toArray, List.set_cons_zero, List.set_cons_succ, i64_w, i32_w]
                rfl
              refine one_ (i := 1) (N := some 83) #[true, true, false, true, true, true, true, false, false, false, false, false, false, false, false, false] rfl rfl (by kernel_rfl) (by decide) (fun K hK => ?_)
              refine goes_ Try.func19 (by kernel_rfl) rfl #[.pointer (some ⟨g, 0, none⟩)] (by rfl) rfl rfl (by (try simp only [List.map_toArray, List.map_cons, List.map_nil]); first | done | rfl) ?_
              refine (PlayIs.all (HQ.out.step (Below.refl _ _).drew) hlen.out.1).mono ?_
              rintro e w5 ⟨A5, c5, hc5, rfl, H5, hk5, hb5⟩
              refine ⟨_, rfl, ?_⟩
              have hcr5 := (hb5.cell (p := ⟨r, 0, none⟩) hrlt).trans hcr
              have hrlt5 := World.block_lt_of_cell? _ _ hcr5
              have hpr5 := PlIs.step (PlIs.step hpr.out (Below.refl _ _).drew) hb5
              replace H5 := Lib.hid H5
              replace hk5 := Lib.hid hk5
              replace hpr5 := Lib.hid hpr5
              replace hc5 := Lib.hid hc5
              clear hb5 hcr hrlt
              refine hK.out _ _ hcr5 (fun hHeld => ?_)
              clear hK K
              refine norm_ (a' := ?_) ?_ ?_
              rotate_left
              · show Act.put _ (some 83) _ = _
                simp only [Act.put, List.setIfInBounds_toArray, List.set_cons_zero, List.set_cons_succ, i64_w, i32_w]
                rfl
              refine one_ (i := 2) (N := some 84) #[true, true, true, true, true, true, true, false, false, false, false, false, false, false, false, false] rfl rfl (by kernel_rfl) (by decide) (fun K hK => ?_)
              refine goes_ Try.func18 (by kernel_rfl) rfl #[.slice A5 me.length c5] (by rfl) rfl rfl (by (try simp only [List.map_toArray, List.map_cons, List.map_nil]); first | done | rfl) ?_
              refine (plainC hk5.out hc5.out hlen.out.2).mono ?_
              rintro e w6 ⟨A6, c6, rfl, hp6, hb6⟩
              refine ⟨_, rfl, ?_⟩
              have hcr6 := (hb6.cell (p := ⟨r, 0, none⟩) hrlt5).trans hcr5
              have hpr6 := PlIs.step hpr5.out hb6
              have H6 := H5.out.step hb6
              replace H6 := Lib.hid H6
              replace hp6 := Lib.hid hp6
              replace hpr6 := Lib.hid hpr6
              clear hb6 hcr5 hrlt5 H5 hk5
              refine hK.out _ _ hcr6 (fun hHeld => ?_)
              clear hK K
              refine norm_ (a' := ?_) ?_ ?_
              rotate_left
              · show Act.put _ (some 84) _ = _
                simp only [Act.put, List.setIfInBounds_toArray, List.set_cons_zero, List.set_cons_succ, i64_w, i32_w]
                rfl
              refine last_ (i := 7) (N := some 89) #[true, true, true, true, true, true, true, true, false, false, false, false, false, false, false, false] rfl rfl (by kernel_rfl) (by decide) (fun K hK => ?_)
              refine goes_ Try.func17 (by kernel_rfl) rfl #[.slice A6 me.length c6, .slice AR me.length cR] (by rfl) rfl rfl (by (try simp only [List.map_toArray, List.map_cons, List.map_nil]); first | done | rfl) ?_
              refine (sameC hp6.out hpr6.out hlen.out.2).mono ?_
              rintro e w7 ⟨rfl, hb7⟩
              refine ⟨_, rfl, ?_⟩
              have H7 := H6.out.step hb7
              replace H7 := Lib.hid H7
              clear hb7 hcr6 H6
              refine hK.out _ _ ?_
              clear hK K
              refine norm_ (a' := ?_) ?_ ?_
              rotate_left
              · show Act.put _ (some 89) _ = _
                simp only [Act.put, List.setIfInBounds_toArray, List.set_cons_zero, List.set_cons_succ, i64_w, i32_w]
                rfl
              refine pure_ (i := 8) (N := some 90) (v := ?_) (a' := ?_) #[true, true, true, true, true, true, true, true, true, false, false, false, false, false, false, false] rfl rfl (by kernel_rfl) (fun _ _ _ h => h) (Or.inl ⟨by rfl, ?_⟩) ?_ ?_
              rotate_left
              · intro w'
                go_simp
                first | with_reducible rfl | rfl
              rotate_left
              · simp only [Act.put, List.setIfInBounds_toArray, List.set_cons_zero, List.set_cons_succ, i64_w, i32_w]
                rfl
              refine pure_ (i := 9) (N := some 91) (v := ?_) (a' := ?_) #[true, true, true, true, true, true, true, true, true, true, false, false, false, false, false, false] rfl rfl (by kernel_rfl) (fun _ _ _ h => h) (Or.inl ⟨by rfl, ?_⟩) ?_ ?_
              rotate_left
              · intro w'
                go_simp
                first | with_reducible rfl | rfl
              rotate_left
              · simp only [Act.put, List.setIfInBounds_toArray, List.set_cons_zero, List.set_cons_succ, i64_w, i32_w]
                rfl
              refine pure_ (i := 10) (N := some 92) (v := ?_) (a' := ?_) #[true, true, true, true, true, true, true, true, true, true, true, false, false, false, false, false] rfl rfl (by kernel_rfl) (fun _ _ _ h => h) (Or.inl ⟨by rfl, ?_⟩) ?_ ?_
              rotate_left
              · intro w'
                go_simp
                first | with_reducible rfl | rfl
              rotate_left
              · simp only [Act.put, List.setIfInBounds_toArray, List.set_cons_zero, List.set_cons_succ, i64_w, i32_w]
                rfl
              refine pure_ (i := 12) (N := some 94) (v := ?_) (a' := ?_) #[true, true, true, true, true, true, true, true, true, true, true, false, true, false, false, false] rfl rfl (by kernel_rfl) (fun _ _ _ h => h) (Or.inl ⟨by rfl, ?_⟩) ?_ ?_
              rotate_left
              · intro w'
                go_simp
                first | with_reducible rfl | rfl
              rotate_left
              · simp only [Act.put, List.setIfInBounds_toArray, List.set_cons_zero, List.set_cons_succ, i64_w, i32_w]
                rfl
              refine last_ (i := 11) (N := some 93) #[true, true, true, true, true, true, true, true, true, true, true, true, true, false, false, false] rfl rfl (by kernel_rfl) (by decide) (fun K hK => ?_)
              refine goes_ Try.func20 (by kernel_rfl) rfl #[.pointer (some ⟨g, 0, none⟩)] (by rfl) rfl rfl (by (try simp only [List.map_toArray, List.map_cons, List.map_nil]); first | done | rfl) ?_
              refine (PlayIs.sbest H7.out hlen.out.1).mono ?_
              rintro e w8 ⟨rfl, H8⟩
              refine ⟨_, rfl, ?_⟩
              replace H8 := Lib.hid H8
              clear H7
              refine hK.out _ _ ?_
              clear hK K
              refine norm_ (a' := ?_) ?_ ?_
              rotate_left
              · show Act.put _ (some 93) _ = _
                simp only [Act.put, List.setIfInBounds_toArray, List.set_cons_zero, List.set_cons_succ, i64_w, i32_w]
                rfl
              refine last_ (i := 13) (N := some 95) #[true, true, true, true, true, true, true, true, true, true, true, true, true, true, false, false] rfl rfl (by kernel_rfl) (by decide) (fun K hK => ?_)
              refine goes_ Try.func21 (by kernel_rfl) rfl #[.pointer (some ⟨r, 0, none⟩)] (by rfl) rfl rfl (by (try simp only [List.map_toArray, List.map_cons, List.map_nil]); first | done | rfl) ?_
              refine (PlayIs.rbest H8.out hlen.out.1).mono ?_
              rintro e w9 ⟨rfl, H9⟩
              refine ⟨_, rfl, ?_⟩
              replace H9 := Lib.hid H9
              clear H8
              refine hK.out _ _ ?_
              clear hK K
              refine norm_ (a' := ?_) ?_ ?_
              rotate_left
              · show Act.put _ (some 95) _ = _
                simp only [Act.put, List.setIfInBounds_toArray, List.set_cons_zero, List.set_cons_succ, i64_w, i32_w]
                rfl
              refine pure_ (i := 14) (N := some 96) (v := ?_) (a' := ?_) #[true, true, true, true, true, true, true, true, true, true, true, true, true, true, true, false] rfl rfl (by kernel_rfl) (fun _ _ _ h => h) (Or.inl ⟨by rfl, ?_⟩) ?_ ?_
              rotate_left
              · intro w'
                go_simp
                first | with_reducible rfl | rfl
              rotate_left
              · simp only [Act.put, List.setIfInBounds_toArray, List.set_cons_zero, List.set_cons_succ, i64_w, i32_w]
                rfl
              refine pure_ (i := 15) (N := some 97) (v := ?_) (a' := ?_) #[true, true, true, true, true, true, true, true, true, true, true, true, true, true, true, true] rfl rfl (by kernel_rfl) (fun _ _ _ h => h) (Or.inl ⟨by rfl, ?_⟩) ?_ ?_
              rotate_left
              · intro w'
                go_simp
                first | with_reducible rfl | rfl
              rotate_left
              · simp only [Act.put, List.setIfInBounds_toArray, List.set_cons_zero, List.set_cons_succ, i64_w, i32_w]
                rfl
              refine done_ (by kernel_rfl) ?_
              go_wp2_with fail
              go_roundw
              case rel => exact ⟨k + 1, g, me, by omega, by go_num, rfl, hLlen.out, by omega, hgL.out, H9.out⟩
              case measure => simp [intOf]; omega
          · have t1 : (kd == 1) = false := beq_eq_false_iff_ne.mpr hk1d
            clear hkd hk1d
            have HB := Lib.hid (HP.out.step ((Below.refl _ _).alloc (Nat.le_refl _) (.cells #[.int .i64 kd, .int .i64 j0, .int .i64 j1, .int .i64 j2, .int .i64 a, .int .i64 b] 32)))
            have hl4 := Lib.hid (show l.length < 10000 by omega)
            go_wp2_with fail
            refine (PlayIs.copy HB.out hl4.out).mono ?_
            rintro e w4 ⟨g', rfl, h4⟩
            replace h4 := Lib.hid (h4 _ (Below.refl _ _))
            go_wp2_with fail
            refine h4.out.mono ?_
            rintro e w5 ⟨rfl, H5⟩
            have HQ := Lib.hid H5
            clear H5 h4
            have hgL := hgood
            have hLlen : l.length ≤ k + 1 := by omega
            have hLb : l.length ≤ 101 := by omega
            replace hLlen := Lib.hid hLlen
            obtain ⟨AR, cR, hcr, hpr⟩ := HQ.out.refRow (by omega)
            have hrlt := World.block_lt_of_cell? _ _ hcr
            have hlen : Hid (l.length ≤ 10000 ∧ l.length ≤ 100000) := Lib.hid ⟨by omega, by omega⟩
            replace hpr := Lib.hid hpr
            go_wp2_with fail
            refine start_ (n := 16) (S := fun w' => w'.cell? ⟨r, 0, none⟩ = some (.slice AR l.length cR)) (ds := [7, 11, 13]) #[false, false, false, false, false, false, false, false, false, false, false, false, false, false, false, false] (by kernel_rfl) rfl rfl hcr (fun hHeld => ?_)
            refine pure_ (i := 0) (N := some 82) (v := ?_) (a' := ?_) #[true, false, false, false, false, false, false, false, false, false, false, false, false, false, false, false] rfl rfl (by kernel_rfl) (fun _ _ _ h => h) (Or.inl ⟨by rfl, ?_⟩) ?_ ?_
            rotate_left
            · intro w'
              go_simp
              first | with_reducible rfl | rfl
            rotate_left
            · simp only [Act.put, List.setIfInBounds_toArray, List.set_cons_zero, List.set_cons_succ, i64_w, i32_w]
              rfl
            refine pure_ (i := 3) (N := some 85) (v := ?_) (a' := ?_) #[true, false, false, true, false, false, false, false, false, false, false, false, false, false, false, false] rfl rfl (by kernel_rfl) (fun _ _ _ h => h) (Or.inl ⟨by rfl, ?_⟩) ?_ ?_
            rotate_left
            · intro w'
              go_simp
              first | with_reducible rfl | rfl
            rotate_left
            · simp only [Act.put, List.setIfInBounds_toArray, List.set_cons_zero, List.set_cons_succ, i64_w, i32_w]
              rfl
            refine pure_ (i := 4) (N := some 86) (v := ?_) (a' := ?_) #[true, false, false, true, true, false, false, false, false, false, false, false, false, false, false, false] rfl rfl (by kernel_rfl) (fun _ _ _ h => h) (Or.inl ⟨by rfl, ?_⟩) ?_ ?_
            rotate_left
            · intro w'
              go_simp
              first | with_reducible rfl | rfl
            rotate_left
            · simp only [Act.put, List.setIfInBounds_toArray, List.set_cons_zero, List.set_cons_succ, i64_w, i32_w]
              rfl
            refine pure_ (i := 5) (N := some 87) (v := ?_) (a' := ?_) #[true, false, false, true, true, true, false, false, false, false, false, false, false, false, false, false] rfl rfl (by kernel_rfl) (fun _ _ _ h => h) (Or.inl ⟨by rfl, ?_⟩) ?_ ?_
            rotate_left
            · intro w'
              go_simp
              first | with_reducible rfl | rfl
            rotate_left
            · simp only [Act.put, List.setIfInBounds_toArray, List.set_cons_zero, List.set_cons_succ, i64_w, i32_w]
              rfl
            refine take_ (i := 6) (N := some 88) (v := ?_) (a' := ?_) #[true, false, false, true, true, true, true, false, false, false, false, false, false, false, false, false] rfl rfl (by kernel_rfl) (fun _ _ _ h => h) (Or.inl ⟨by rfl, ?_⟩) hHeld ?_ ?_
            rotate_left
            · rintro w' s0
              go_simp
              first | with_reducible rfl | rfl
            rotate_left
            · simp only [Act.put, List.setIfInBounds_toArray, List.set_cons_zero, List.set_cons_succ, i64_w, i32_w]
              rfl
            refine one_ (i := 1) (N := some 83) #[true, true, false, true, true, true, true, false, false, false, false, false, false, false, false, false] rfl rfl (by kernel_rfl) (by decide) (fun K hK => ?_)
            refine goes_ Try.func19 (by kernel_rfl) rfl #[.pointer (some ⟨g', 0, none⟩)] (by rfl) rfl rfl (by (try simp only [List.map_toArray, List.map_cons, List.map_nil]); first | done | rfl) ?_
            refine (PlayIs.all (HQ.out.step (Below.refl _ _).drew) hlen.out.1).mono ?_
            rintro e w5 ⟨A5, c5, hc5, rfl, H5, hk5, hb5⟩
            refine ⟨_, rfl, ?_⟩
            have hcr5 := (hb5.cell (p := ⟨r, 0, none⟩) hrlt).trans hcr
            have hrlt5 := World.block_lt_of_cell? _ _ hcr5
            have hpr5 := PlIs.step (PlIs.step hpr.out (Below.refl _ _).drew) hb5
            replace H5 := Lib.hid H5
            replace hk5 := Lib.hid hk5
            replace hpr5 := Lib.hid hpr5
            replace hc5 := Lib.hid hc5
            clear hb5 hcr hrlt
            refine hK.out _ _ hcr5 (fun hHeld => ?_)
            clear hK K
            refine norm_ (a' := ?_) ?_ ?_
            rotate_left
            · show Act.put _ (some 83) _ = _
              simp only [Act.put, List.setIfInBounds_toArray, List.set_cons_zero, List.set_cons_succ, i64_w, i32_w]
              rfl
            refine one_ (i := 2) (N := some 84) #[true, true, true, true, true, true, true, false, false, false, false, false, false, false, false, false] rfl rfl (by kernel_rfl) (by decide) (fun K hK => ?_)
            refine goes_ Try.func18 (by kernel_rfl) rfl #[.slice A5 l.length c5] (by rfl) rfl rfl (by (try simp only [List.map_toArray, List.map_cons, List.map_nil]); first | done | rfl) ?_
            refine (plainC hk5.out hc5.out hlen.out.2).mono ?_
            rintro e w6 ⟨A6, c6, rfl, hp6, hb6⟩
            refine ⟨_, rfl, ?_⟩
            have hcr6 := (hb6.cell (p := ⟨r, 0, none⟩) hrlt5).trans hcr5
            have hpr6 := PlIs.step hpr5.out hb6
            have H6 := H5.out.step hb6
            replace H6 := Lib.hid H6
            replace hp6 := Lib.hid hp6
            replace hpr6 := Lib.hid hpr6
            clear hb6 hcr5 hrlt5 H5 hk5
            refine hK.out _ _ hcr6 (fun hHeld => ?_)
            clear hK K
            refine norm_ (a' := ?_) ?_ ?_
            rotate_left
            · show Act.put _ (some 84) _ = _
              simp only [Act.put, List.setIfInBounds_toArray, List.set_cons_zero, List.set_cons_succ, i64_w, i32_w]
              rfl
            refine last_ (i := 7) (N := some 89) #[true, true, true, true, true, true, true, true, false, false, false, false, false, false, false, false] rfl rfl (by kernel_rfl) (by decide) (fun K hK => ?_)
            refine goes_ Try.func17 (by kernel_rfl) rfl #[.slice A6 l.length c6, .slice AR l.length cR] (by rfl) rfl rfl (by (try simp only [List.map_toArray, List.map_cons, List.map_nil]); first | done | rfl) ?_
            refine (sameC hp6.out hpr6.out hlen.out.2).mono ?_
            rintro e w7 ⟨rfl, hb7⟩
            refine ⟨_, rfl, ?_⟩
            have H7 := H6.out.step hb7
            replace H7 := Lib.hid H7
            clear hb7 hcr6 H6
            refine hK.out _ _ ?_
            clear hK K
            refine norm_ (a' := ?_) ?_ ?_
            rotate_left
            · show Act.put _ (some 89) _ = _
              simp only [Act.put, List.setIfInBounds_toArray, List.set_cons_zero, List.set_cons_succ, i64_w, i32_w]
              rfl
            refine pure_ (i := 8) (N := some 90) (v := ?_) (a' := ?_) #[true, true, true, true, true, true, true, true, true, false, false, false, false, false, false, false] rfl rfl (by kernel_rfl) (fun _ _ _ h => h) (Or.inl ⟨by rfl, ?_⟩) ?_ ?_
            rotate_left
            · intro w'
              go_simp
              first | with_reducible rfl | rfl
            rotate_left
            · simp only [Act.put, List.setIfInBounds_toArray, List.set_cons_zero, List.set_cons_succ, i64_w, i32_w]
              rfl
            refine pure_ (i := 9) (N := some 91) (v := ?_) (a' := ?_) #[true, true, true, true, true, true, true, true, true, true, false, false, false, false, false, false] rfl rfl (by kernel_rfl) (fun _ _ _ h => h) (Or.inl ⟨by rfl, ?_⟩) ?_ ?_
            rotate_left
            · intro w'
              go_simp
              first | with_reducible rfl | rfl
            rotate_left
            · simp only [Act.put, List.setIfInBounds_toArray, List.set_cons_zero, List.set_cons_succ, i64_w, i32_w]
              rfl
            refine pure_ (i := 10) (N := some 92) (v := ?_) (a' := ?_) #[true, true, true, true, true, true, true, true, true, true, true, false, false, false, false, false] rfl rfl (by kernel_rfl) (fun _ _ _ h => h) (Or.inl ⟨by rfl, ?_⟩) ?_ ?_
            rotate_left
            · intro w'
              go_simp
              first | with_reducible rfl | rfl
            rotate_left
            · simp only [Act.put, List.setIfInBounds_toArray, List.set_cons_zero, List.set_cons_succ, i64_w, i32_w]
              rfl
            refine pure_ (i := 12) (N := some 94) (v := ?_) (a' := ?_) #[true, true, true, true, true, true, true, true, true, true, true, false, true, false, false, false] rfl rfl (by kernel_rfl) (fun _ _ _ h => h) (Or.inl ⟨by rfl, ?_⟩) ?_ ?_
            rotate_left
            · intro w'
              go_simp
              first | with_reducible rfl | rfl
            rotate_left
            · simp only [Act.put, List.setIfInBounds_toArray, List.set_cons_zero, List.set_cons_succ, i64_w, i32_w]
              rfl
            refine last_ (i := 11) (N := some 93) #[true, true, true, true, true, true, true, true, true, true, true, true, true, false, false, false] rfl rfl (by kernel_rfl) (by decide) (fun K hK => ?_)
            refine goes_ Try.func20 (by kernel_rfl) rfl #[.pointer (some ⟨g', 0, none⟩)] (by rfl) rfl rfl (by (try simp only [List.map_toArray, List.map_cons, List.map_nil]); first | done | rfl) ?_
            refine (PlayIs.sbest H7.out hlen.out.1).mono ?_
            rintro e w8 ⟨rfl, H8⟩
            refine ⟨_, rfl, ?_⟩
            replace H8 := Lib.hid H8
            clear H7
            refine hK.out _ _ ?_
            clear hK K
            refine norm_ (a' := ?_) ?_ ?_
            rotate_left
            · show Act.put _ (some 93) _ = _
              simp only [Act.put, List.setIfInBounds_toArray, List.set_cons_zero, List.set_cons_succ, i64_w, i32_w]
              rfl
            refine last_ (i := 13) (N := some 95) #[true, true, true, true, true, true, true, true, true, true, true, true, true, true, false, false] rfl rfl (by kernel_rfl) (by decide) (fun K hK => ?_)
            refine goes_ Try.func21 (by kernel_rfl) rfl #[.pointer (some ⟨r, 0, none⟩)] (by rfl) rfl rfl (by (try simp only [List.map_toArray, List.map_cons, List.map_nil]); first | done | rfl) ?_
            refine (PlayIs.rbest H8.out hlen.out.1).mono ?_
            rintro e w9 ⟨rfl, H9⟩
            refine ⟨_, rfl, ?_⟩
            replace H9 := Lib.hid H9
            clear H8
            refine hK.out _ _ ?_
            clear hK K
            refine norm_ (a' := ?_) ?_ ?_
            rotate_left
            · show Act.put _ (some 95) _ = _
              simp only [Act.put, List.setIfInBounds_toArray, List.set_cons_zero, List.set_cons_succ, i64_w, i32_w]
              rfl
            refine pure_ (i := 14) (N := some 96) (v := ?_) (a' := ?_) #[true, true, true, true, true, true, true, true, true, true, true, true, true, true, true, false] rfl rfl (by kernel_rfl) (fun _ _ _ h => h) (Or.inl ⟨by rfl, ?_⟩) ?_ ?_
            rotate_left
            · intro w'
              go_simp
              first | with_reducible rfl | rfl
            rotate_left
            · simp only [Act.put, List.setIfInBounds_toArray, List.set_cons_zero, List.set_cons_succ, i64_w, i32_w]
              rfl
            refine pure_ (i := 15) (N := some 97) (v := ?_) (a' := ?_) #[true, true, true, true, true, true, true, true, true, true, true, true, true, true, true, true] rfl rfl (by kernel_rfl) (fun _ _ _ h => h) (Or.inl ⟨by rfl, ?_⟩) ?_ ?_
            rotate_left
            · intro w'
              go_simp
              first | with_reducible rfl | rfl
            rotate_left
            · simp only [Act.put, List.setIfInBounds_toArray, List.set_cons_zero, List.set_cons_succ, i64_w, i32_w]
              rfl
            refine done_ (by kernel_rfl) ?_
            go_wp2_with fail
            go_roundw
            case rel => exact ⟨k + 1, g', l, by omega, by go_num, rfl, hLlen.out, by omega, hgL.out, H9.out⟩
            case measure => simp [intOf]; omega
      · have e1 : ¬ ((k : Int) < 100) := by omega
        have HE := HP.out.below
        have HS' : Sts w wr [] := Sts.empty HE
        replace HS' := Lib.hid HS'
        clear HE
        go_wp2_with fail
        refine (known_walk _).mono ?_
        rintro e wk ⟨rfl, hb⟩
        have HZ := HS'.out.below.trans (hb.mono HS'.out.size)
        replace HZ := Lib.hid HZ
        clear hb
        go_wp2_with fail
        go_ret
        exact ⟨rfl, HZ.out⟩
    · have e0 : ¬ ((k : Int) < (ops.length : Int)) := by omega
      have HE := HP.out.below
      have HS' : Sts w wr [] := Sts.empty HE
      replace HS' := Lib.hid HS'
      clear HE
      go_wp2_with fail
      refine (known_walk _).mono ?_
      rintro e wk ⟨rfl, hb⟩
      have HZ := HS'.out.below.trans (hb.mono HS'.out.size)
      replace HZ := Lib.hid HZ
      clear hb
      go_wp2_with fail
      go_ret
      exact ⟨rfl, HZ.out⟩
end Go.Proofs.Ytojdbpeaclnmkaa.Rd
