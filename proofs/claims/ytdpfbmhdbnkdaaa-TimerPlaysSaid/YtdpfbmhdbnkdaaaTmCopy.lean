/- A copy of a timer. -/
import Derived.Test.YtdpfbmhdbnkdaaaTmNew
set_option linter.unusedVariables false
set_option linter.unusedSimpArgs false
namespace Go.Proofs.Ytdpfbmhdbnkdaaa.Tm
open Go Go.RowKit Go.Proofs.YtdpfbmhdbnkdaaaW.PrintWords Go.Proofs.YtdpfbmhdbnkdaaaW.PrintLast Go.Proofs.YtdpfbmhdbnkdaaaW.PrintMore Go.Proofs.Ytdpfbmhdbnkdaaa Go.Proofs.Ytdpfbmhdbnkdaaa.Print
attribute [local go_sem] max2_int min2_int max_two min_two
theorem MapIs.in64 {W : World} {m : Nat} {ws : List W3} (h : MapIs W m ws) : ∀ x ∈ ws, In64 x.t ∧ In64 x.n := by
  obtain ⟨es, clock, h1, h2, h3, h4⟩ := h
  exact h4
def CopyPost (w : World) (pv : Value) (now : Nat) (ws : List W3) (e : Ending) (w' : World) : Prop := ∃ g m, e = .returned (.pointer (some ⟨g, 0, none⟩)) ∧ TimAt w' g m pv now ws ∧ Below w.heap.size w w' ∧ w.heap.size ≤ g ∧ w.heap.size ≤ m
def CopyRel (w : World) (m r : Nat) (pv : Value) (now : Nat) (ws : List W3) (wr : World) : Prop := ∃ lf dn : List W3, RanIs wr m r ws lf ∧ TimAt wr (w.heap.size + 1) w.heap.size pv now dn ∧ (dn ++ lf).Perm ws ∧ Below w.heap.size w wr
set_option maxRecDepth 100000 in
set_option maxHeartbeats 4000000 in
theorem copy_any (g m : Nat) (pa : Option Addr) (pn pc : Nat) (now : Nat) (ws : List W3) (w : World) (h : TimAt w g m (.slice pa pn pc) now ws) (hl : ws.length ≤ 100000) : Calls Try.prog 13 #[.pointer (some ⟨g, 0, none⟩)] w (CopyPost w (.slice pa pn pc) now ws) := by
  have hc0 := h.c0
  have hc1 := h.c1
  have hc2 := h.c2
  have hdis := Lib.hid h.map.distinct
  have hin := Lib.hid h.map.in64
  have HT := Lib.hid h
  have HL := Lib.hid hl
  clear h hl
  have hmm := @run_makeMap Try.prog
  have hgl := HT.out.lt.1
  have hbm := (Below.refl w.heap.size w).drew.alloc (Nat.le_refl _) (.map #[] 0)
  go_enter Try.func13, Try.ntmps13
  go_wp2_with fail
  refine (there_is _ g m hc2).mono ?_
  rintro e w1 ⟨rfl, rfl⟩
  go_wp2_with fail
  refine start_ (n := 12) (S := fun w' => w'.cell? ⟨g, 0, none⟩ = some (.slice pa pn pc) ∧ w'.cell? ⟨g, 1, none⟩ = some (.int .i64 now)) (ds := [10]) #[false, false, false, false, false, false, false, false, false, false, false, false] (by kernel_rfl) rfl rfl ⟨hc0, hc1⟩ (fun hHeld => ?_)
  refine pure_ (i := 0) (N := some 9) (v := ?_) (a' := ?_) #[true, false, false, false, false, false, false, false, false, false, false, false] rfl rfl (by kernel_rfl) (fun _ _ _ h => h) (Or.inl ⟨by rfl, ?_⟩) ?_ ?_
  rotate_left
  · intro w'
    go_simp
    first | with_reducible rfl | rfl
  rotate_left
  · simp only [Act.put, List.setIfInBounds_toArray, List.set_cons_zero, List.set_cons_succ, i64_w, i32_w]
    rfl
  refine pure_ (i := 1) (N := some 10) (v := ?_) (a' := ?_) #[true, true, false, false, false, false, false, false, false, false, false, false] rfl rfl (by kernel_rfl) (fun _ _ _ h => h) (Or.inl ⟨by rfl, ?_⟩) ?_ ?_
  rotate_left
  · intro w'
    go_simp
    first | with_reducible rfl | rfl
  rotate_left
  · simp only [Act.put, List.setIfInBounds_toArray, List.set_cons_zero, List.set_cons_succ, i64_w, i32_w]
    rfl
  refine pure_ (i := 2) (N := some 11) (v := ?_) (a' := ?_) #[true, true, true, false, false, false, false, false, false, false, false, false] rfl rfl (by kernel_rfl) (fun _ _ _ h => h) (Or.inl ⟨by rfl, ?_⟩) ?_ ?_
  rotate_left
  · intro w'
    go_simp
    first | with_reducible rfl | rfl
  rotate_left
  · simp only [Act.put, List.setIfInBounds_toArray, List.set_cons_zero, List.set_cons_succ, i64_w, i32_w]
    rfl
  refine pure_ (i := 4) (N := some 13) (v := ?_) (a' := ?_) #[true, true, true, false, true, false, false, false, false, false, false, false] rfl rfl (by kernel_rfl) (fun _ _ _ h => h) (Or.inl ⟨by rfl, ?_⟩) ?_ ?_
  rotate_left
  · intro w'
    go_simp
    first | with_reducible rfl | rfl
  rotate_left
  · simp only [Act.put, List.setIfInBounds_toArray, List.set_cons_zero, List.set_cons_succ, i64_w, i32_w]
    rfl
  refine pure_ (i := 5) (N := some 14) (v := ?_) (a' := ?_) #[true, true, true, false, true, true, false, false, false, false, false, false] rfl rfl (by kernel_rfl) (fun _ _ _ h => h) (Or.inl ⟨by rfl, ?_⟩) ?_ ?_
  rotate_left
  · intro w'
    go_simp
    first | with_reducible rfl | rfl
  rotate_left
  · simp only [Act.put, List.setIfInBounds_toArray, List.set_cons_zero, List.set_cons_succ, i64_w, i32_w]
    rfl
  refine pure_ (i := 6) (N := some 15) (v := ?_) (a' := ?_) #[true, true, true, false, true, true, true, false, false, false, false, false] rfl rfl (by kernel_rfl) (fun _ _ _ h => h) (Or.inl ⟨by rfl, ?_⟩) ?_ ?_
  rotate_left
  · intro w'
    go_simp
    first | with_reducible rfl | rfl
  rotate_left
  · simp only [Act.put, List.setIfInBounds_toArray, List.set_cons_zero, List.set_cons_succ, i64_w, i32_w]
    rfl
  refine take_ (i := 3) (N := some 12) (v := ?_) (a' := ?_) #[true, true, true, true, true, true, true, false, false, false, false, false] rfl rfl (by kernel_rfl) (fun _ _ _ h => h) (Or.inl ⟨by rfl, ?_⟩) hHeld ?_ ?_
  rotate_left
  · rintro w' ⟨s0, s1⟩
    go_simp
    first | with_reducible rfl | rfl
  rotate_left
  · simp only [Act.put, List.setIfInBounds_toArray, List.set_cons_zero, List.set_cons_succ, i64_w, i32_w]
    rfl
  refine take_ (i := 7) (N := some 16) (v := ?_) (a' := ?_) #[true, true, true, true, true, true, true, true, false, false, false, false] rfl rfl (by kernel_rfl) (fun _ _ _ h => h) (Or.inl ⟨by rfl, ?_⟩) hHeld ?_ ?_
  rotate_left
  · rintro w' ⟨s0, s1⟩
    go_simp
    first | with_reducible rfl | rfl
  rotate_left
  · simp only [Act.put, List.setIfInBounds_toArray, List.set_cons_zero, List.set_cons_succ, i64_w, i32_w]
    rfl
  refine one_ (i := 8) (N := some 17) #[true, true, true, true, true, true, true, true, true, false, false, false] rfl rfl (by kernel_rfl) (by decide) (fun K hK => ?_)
  refine value_ (w1 := ?_) (v := ?_) (by rfl) rfl ?_ ?_
  rotate_left 2
  · go_simp
    constructor
    · rfl
    · rfl
  refine hK.out _ _ ⟨(hbm.cell (p := ⟨g, 0, none⟩) hgl).trans hc0, (hbm.cell (p := ⟨g, 1, none⟩) hgl).trans hc1⟩ (fun hHeld => ?_)
  clear hK K
  refine norm_ (a' := ?_) ?_ ?_
  rotate_left
  · show Act.put _ (some 17) _ = _
    simp only [Act.put, List.setIfInBounds_toArray, List.set_cons_zero, List.set_cons_succ, i64_w, i32_w]
    rfl
  refine pure_ (i := 9) (N := some 18) (v := ?_) (a' := ?_) #[true, true, true, true, true, true, true, true, true, true, false, false] rfl rfl (by kernel_rfl) (fun _ _ _ h => h) (Or.inl ⟨by rfl, ?_⟩) ?_ ?_
  rotate_left
  · intro w'
    go_simp
    first | with_reducible rfl | rfl
  rotate_left
  · simp only [Act.put, List.setIfInBounds_toArray, List.set_cons_zero, List.set_cons_succ, i64_w, i32_w]
    rfl
  refine last_ (i := 10) (N := some 19) #[true, true, true, true, true, true, true, true, true, true, true, false] rfl rfl (by kernel_rfl) (by decide) (fun K hK => ?_)
  refine value_ (w1 := ?_) (v := ?_) (by rfl) rfl ?_ ?_
  rotate_left 2
  · go_simp
    constructor
    · rfl
    · rfl
  refine hK.out _ _ ?_
  clear hK K
  refine norm_ (a' := ?_) ?_ ?_
  rotate_left
  · show Act.put _ (some 19) _ = _
    simp only [Act.put, List.setIfInBounds_toArray, List.set_cons_zero, List.set_cons_succ, i64_w, i32_w]
    rfl
  refine pure_ (i := 11) (N := some 3) (v := ?_) (a' := ?_) #[true, true, true, true, true, true, true, true, true, true, true, true] rfl rfl (by kernel_rfl) (fun _ _ _ h => h) (Or.inl ⟨by rfl, ?_⟩) ?_ ?_
  rotate_left
  · intro w'
    go_simp
    first | with_reducible rfl | rfl
  rotate_left
  · simp only [Act.put, List.setIfInBounds_toArray, List.set_cons_zero, List.set_cons_succ, i64_w, i32_w]
    rfl
  refine done_ (by kernel_rfl) ?_
  have hbl := (((Below.refl w.heap.size w).alloc (Nat.le_refl _) (.map #[] 0)).alloc (by simp) (.cells #[.slice pa pn pc, .int .i64 now, .map (some w.heap.size)] 53)).drew
  have hnew : TimAt (((w.alloc (.map #[] 0)).alloc (.cells #[.slice pa pn pc, .int .i64 now, .map (some w.heap.size)] 53)).drew) (w.heap.size + 1) w.heap.size (.slice pa pn pc) now [] :=
    ⟨by show ((w.alloc (.map #[] 0)).alloc (.cells #[.slice pa pn pc, .int .i64 now, .map (some w.heap.size)] 53)).heap[w.heap.size + 1]? = _; have := heap_alloc_new (w.alloc (.map #[] 0)) (.cells #[.slice pa pn pc, .int .i64 now, .map (some w.heap.size)] 53); simpa using this, (MapIs.made w).move (Below.heap_alloc _ _ _ (by simp))⟩
  have hT1 := HT.out.step hbl
  have hc2b := hT1.c2
  replace hbl := Lib.hid hbl
  replace hnew := Lib.hid hnew
  replace hT1 := Lib.hid hT1
  replace hmm := Lib.hid hmm
  clear hc0 hc1 hc2 hbm
  have hsz : w.heap.size + 1 < ((w.alloc (.map #[] 0)).alloc (.cells #[.slice pa pn pc, .int .i64 now, .map (some w.heap.size)] 53)).drew.heap.size := by simp
  have hglt := HT.out.lt
  generalize ((w.alloc (.map #[] 0)).alloc (.cells #[.slice pa pn pc, .int .i64 now, .map (some w.heap.size)] 53)).drew = W0 at *
  go_wp2_with (first | (at_range; refine wpList_rangeD _ rfl _ rfl m ws rfl hT1.out.map ?_; intro w0 hrg hb0 hs0) | fail)
  go_frame
  have hnew0 := hnew.out.step hb0
  have hbl0 := hbl.out.trans (hb0.mono (by omega))
  clear hs0 hc2b
  generalize W0.heap.size = r at *
  replace hsz := Lib.hid hsz
  replace hglt := Lib.hid hglt
  go_loopw [5] (fun _ wr => CopyRel w m r (.slice pa pn pc) now ws wr) (fun _ wr => wr.rangeLeft m r)
  case atStart => exact ⟨ws, [], hrg, hnew0, by simp, hbl0⟩
  case round =>
    clear hrg hnew0 hbl0 hb0
    obtain ⟨lf, dn, hR, hT, hperm, hb⟩ := hrel
    have hmeas := Lib.hid hR.left_eq
    replace hR := Lib.hid hR
    replace hT := Lib.hid hT
    replace hperm := Lib.hid hperm
    replace hb := Lib.hid hb
    go_wp2_with (first | (at_next; refine wpList_nextD _ rfl _ rfl m r ws lf rfl hR.out ?_ ?_) | fail)
    · intro hl0
      replace hl0 := Lib.hid hl0
      go_wp2_with fail
      go_ret
      refine ⟨_, _, rfl, ⟨hT.out.blk, hT.out.map.perm ?_⟩, hb.out, Nat.le_succ _, Nat.le_refl _⟩
      have hp := hperm.out
      rw [hl0.out, List.append_nil] at hp
      exact hp
    · intro x lf' w2 hpx hR2 hk2 hs2 hen
      have hszo := hsz.out
      have hT2 := Lib.hid (hT.out.move (hk2.block _ hT.out.lt.1 (by simp; omega)) (hk2.block _ hT.out.lt.2 (by simp; omega)))
      have hb2 := Lib.hid (below_keeps hb.out hk2 hb.out.size (by simp; omega))
      have hxm : x ∈ ws := hperm.out.mem_iff.1 (List.mem_append_right _ (hpx.mem_iff.2 (by simp)))
      have hxi := hin.out x hxm
      have hxn : ∀ y ∈ dn, ¬ (y.t = x.t ∧ y.n = x.n) := by
        have h1 : (dn ++ (x :: lf')).Pairwise (fun x y => ¬ (x.t = y.t ∧ x.n = y.n)) := ((((hpx.append_left dn).symm.trans hperm.out)).pairwise_iff (fun {a b} h e => h ⟨e.1.symm, e.2.symm⟩)).2 hdis.out
        rw [List.pairwise_append] at h1
        exact fun y hy => h1.2.2 y hy x (by simp)
      have hdl : dn.length < maxLen := by
        have h1 := hperm.out.length_eq
        have := HL.out
        rw [List.length_append] at h1
        unfold maxLen
        omega
      have hp2 : Hid (((x :: dn) ++ lf').Perm ws) := Lib.hid (by
        refine List.Perm.trans ?_ hperm.out
        exact (List.perm_middle.symm.trans (hpx.symm.append_left dn) : ((x :: dn) ++ lf').Perm (dn ++ lf)))
      replace hR2 := Lib.hid hR2
      replace hpx := Lib.hid hpx
      obtain ⟨xt, xn, xa⟩ := x
      clear hk2 hs2 hxm hszo
      dsimp only at hxi hxn hen
      replace hxi := Lib.hid hxi
      replace hxn := Lib.hid hxn
      replace hdl := Lib.hid hdl
      go_wp2_with fail
      have hbx := heap_alloc_new w2 (.cells #[.int .i64 xt, .int .i64 xn] 48)
      have hbl2 := (Below.refl w2.heap.size w2).alloc (Nat.le_refl _) (.cells #[.int .i64 xt, .int .i64 xn] 48)
      have hT3 := hT2.out.step hbl2
      have f2 := hT3.c2
      have x0 : _ = some (Value.int .i64 xt) := (blk_cell hbx 0).trans rfl
      have x1 : _ = some (Value.int .i64 xn) := (blk_cell hbx 1).trans rfl
      obtain ⟨W1, hst, hM1, hk1⟩ := MapIs.store (W := (w2.alloc (.cells #[.int .i64 xt, .int .i64 xn] 48)).drew) (m := w.heap.size) (hT3.map.move rfl) hdl.out xt xn xa hxi.out.1 hxi.out.2 hxn.out
      have hszo := hsz.out
      have hT4 : TimAt W1 (w.heap.size + 1) w.heap.size (.slice pa pn pc) now (⟨xt, xn, xa⟩ :: dn) := ⟨(hk1.block _ hT3.lt.1 (by simp)).trans hT3.blk, hM1⟩
      have hR3 : RanIs W1 m r ws lf' := (hR2.out.step hbl2.drew).move (hk1.block m ((hR2.out.step hbl2.drew).lt.2.1) (by have := hglt.out.2; simp; omega)) (hk1.block r ((hR2.out.step hbl2.drew).lt.1) (by simp; omega))
      have hb3 : Below w.heap.size w W1 := below_keeps (hb2.out.trans (hbl2.drew.mono hb2.out.size)) hk1 (Nat.le_trans hb2.out.size hbl2.drew.size) (by simp)
      replace hT4 := Lib.hid hT4
      replace hR3 := Lib.hid hR3
      replace hb3 := Lib.hid hb3
      clear hT3 hbx hbl2 hM1 hk1 hszo
      refine start_ (n := 7) (S := fun w' => w'.cell? ⟨w.heap.size + 1, 2, none⟩ = some (.map (some w.heap.size)) ∧ w'.cell? ⟨w2.heap.size, 0, none⟩ = some (.int .i64 xt) ∧ w'.cell? ⟨w2.heap.size, 1, none⟩ = some (.int .i64 xn)) (ds := [6]) #[false, false, false, false, false, false, false] (by kernel_rfl) rfl rfl ⟨f2, x0, x1⟩ (fun hHeld => ?_)
      refine pure_ (i := 0) (N := some 30) (v := ?_) (a' := ?_) #[true, false, false, false, false, false, false] rfl rfl (by kernel_rfl) (fun _ _ _ h => h) (Or.inl ⟨by rfl, ?_⟩) ?_ ?_
      rotate_left
      · intro w'
        go_simp
        first | with_reducible rfl | rfl
      rotate_left
      · simp only [Act.put, List.setIfInBounds_toArray, List.set_cons_zero, List.set_cons_succ, i64_w, i32_w]
        rfl
      refine pure_ (i := 1) (N := some 31) (v := ?_) (a' := ?_) #[true, true, false, false, false, false, false] rfl rfl (by kernel_rfl) (fun _ _ _ h => h) (Or.inl ⟨by rfl, ?_⟩) ?_ ?_
      rotate_left
      · intro w'
        go_simp
        first | with_reducible rfl | rfl
      rotate_left
      · simp only [Act.put, List.setIfInBounds_toArray, List.set_cons_zero, List.set_cons_succ, i64_w, i32_w]
        rfl
      refine pure_ (i := 2) (N := some 32) (v := ?_) (a' := ?_) #[true, true, true, false, false, false, false] rfl rfl (by kernel_rfl) (fun _ _ _ h => h) (Or.inl ⟨by rfl, ?_⟩) ?_ ?_
      rotate_left
      · intro w'
        go_simp
        first | with_reducible rfl | rfl
      rotate_left
      · simp only [Act.put, List.setIfInBounds_toArray, List.set_cons_zero, List.set_cons_succ, i64_w, i32_w]
        rfl
      refine pure_ (i := 5) (N := some 35) (v := ?_) (a' := ?_) #[true, true, true, false, false, true, false] rfl rfl (by kernel_rfl) (fun _ _ _ h => h) (Or.inl ⟨by rfl, ?_⟩) ?_ ?_
      rotate_left
      · intro w'
        go_simp
        first | with_reducible rfl | rfl
      rotate_left
      · simp only [Act.put, List.setIfInBounds_toArray, List.set_cons_zero, List.set_cons_succ, i64_w, i32_w]
        rfl
      refine take_ (i := 3) (N := some 33) (v := ?_) (a' := ?_) #[true, true, true, true, false, true, false] rfl rfl (by kernel_rfl) (fun _ _ _ h => h) (Or.inl ⟨by rfl, ?_⟩) hHeld ?_ ?_
      rotate_left
      · rintro w' ⟨s0, s1, s2⟩
        go_simp
        first | with_reducible rfl | rfl
      rotate_left
      · simp only [Act.put, List.setIfInBounds_toArray, List.set_cons_zero, List.set_cons_succ, i64_w, i32_w]
        rfl
      refine take_ (i := 4) (N := some 34) (v := ?_) (a' := ?_) #[true, true, true, true, true, true, false] rfl rfl (by kernel_rfl) (fun _ _ _ h => h) (Or.inl ⟨by rfl, ?_⟩) hHeld ?_ ?_
      rotate_left
      · rintro w' ⟨s0, s1, s2⟩
        go_simp
        first | with_reducible rfl | rfl
      rotate_left
      · simp only [Act.put, List.setIfInBounds_toArray, List.set_cons_zero, List.set_cons_succ, i64_w, i32_w]
        rfl
      refine last_ (i := 6) (N := none) #[true, true, true, true, true, true, true] rfl rfl (by kernel_rfl) (by decide) (fun K hK => ?_)
      refine skip_ (w1 := W1) (by rfl) rfl ?_ ?_
      · go_simp
        have hst2 : Sem.run Try.prog (Instr.mapUpdate 51 (.map (some w.heap.size)) (.agg #[.int .i64 xt, .int .i64 xn]) (.int .i64 xa)) _ = .ok () W1 := hst
        rw [hst2]
        rfl
      refine hK.out _ _ ?_
      clear hK K
      refine done_ (by kernel_rfl) ?_
      clear hst f2 x0 x1 hen
      go_wp2_with fail
      go_roundw
      case rel => exact ⟨lf', ⟨xt, xn, xa⟩ :: dn, hR3.out, hT4.out, hp2.out, hb3.out⟩
      case measure => rw [hR3.out.left_eq, hmeas.out]; have := hpx.out.length_eq; simp at this; omega
end Go.Proofs.Ytdpfbmhdbnkdaaa.Tm
