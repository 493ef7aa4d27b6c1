/- What waits, told in order: the timer's call Waiting. -/
import Derived.Test.YtdpfbmhdbnkdaaaTmRow
set_option linter.unusedVariables false
set_option linter.unusedSimpArgs false
namespace Go.Proofs.Ytdpfbmhdbnkdaaa.Tm
open Go Go.RowKit Go.Proofs.YtdpfbmhdbnkdaaaW.PrintWords Go.Proofs.YtdpfbmhdbnkdaaaW.PrintLast Go.Proofs.YtdpfbmhdbnkdaaaW.PrintMore Go.Proofs.Ytdpfbmhdbnkdaaa Go.Proofs.Ytdpfbmhdbnkdaaa.Print
attribute [local go_sem] max2_int min2_int max_two min_two
section
variable {ops : Array Oper} {rest : List Oper} {o : Oper} {a : Act} {Q : Exit → Act → World → Prop}
/-- 'range m', as the next operation of a plain region -/
theorem wpList_rangeD (w : World) (hg : o.guard = none) (x : Operand) (hop : o.op = Op.range 51 x) (m : Nat) (ws : List W3) (hm : a.eval x = .map (some m)) (h : MapIs w m ws)
    (hK : ∀ w', RanIs w' m w.heap.size ws ws → Below w.heap.size w w' → w'.heap.size = w.heap.size + 1 → wpList Try.prog ops Q rest (a.put o.dst (.pointer (some ⟨w.heap.size, 0, none⟩))) w') : wpList Try.prog ops Q (o :: rest) a w := by
  refine wpList_plain hg fun K' hK' => ?_
  obtain ⟨w', hrun, r1, r2, r3⟩ := h.range
  unfold Oper.wp
  simp [execOp, hop, hm, hrun, Result.andThen]
  exact hK' _ _ (hK w' r1 r2 r3)
/-- the step -/
theorem wpList_nextD (w : World) (hg : o.guard = none) (it : Operand) (hop : o.op = Op.next it false) (m r : Nat) (ws left : List W3) (hit : a.eval it = .pointer (some ⟨r, 0, none⟩)) (h : RanIs w m r ws left)
    (hDone : left = [] → wpList Try.prog ops Q rest (a.put o.dst (.tuple #[.bool false])) w)
    (hMore : ∀ x left' w', left.Perm (x :: left') → RanIs w' m r ws left' → Keeps [r] w w' → w'.heap.size = w.heap.size → (Instr.entry (.pointer (some ⟨r, 0, none⟩))).run Try.prog w' = .ok (.tuple #[.agg #[.int .i64 x.t, .int .i64 x.n], .int .i64 x.a]) w' →
      wpList Try.prog ops Q rest (a.put o.dst (.tuple #[.bool true, .agg #[.int .i64 x.t, .int .i64 x.n], .int .i64 x.a])) w') : wpList Try.prog ops Q (o :: rest) a w := by
  refine wpList_plain hg fun K' hK' => ?_
  unfold Oper.wp
  rcases h.next o.type with ⟨h0, hrun⟩ | ⟨x, left', w', hp, hrun, hr, hk, hs, hen⟩
  · simp [execOp, hop, hit, hrun, Result.andThen]
    exact hK' _ _ (hDone h0)
  · simp [execOp, hop, hit, hrun, Result.andThen]
    exact hK' _ _ (hMore x left' w' hp hr hk hs hen)
end
theorem RanIs.left_eq {W : World} {m r : Nat} {ws left : List W3} (h : RanIs W m r ws left) : W.rangeLeft m r = left.length := by
  obtain ⟨es, clock, since, seen, c0, hb, _, _, _, hr, _, _, _, hl⟩ := h
  simp only [World.rangeLeft, hb, hr]
  have := hl.length_eq
  simpa using this
def WaitPost (w : World) (ws : List W3) (e : Ending) (w' : World) : Prop := ∃ v, e = .returned v ∧ RowIs w' w.heap.size v (ws.map W3.due) ∧ Below w.heap.size w w'
def WaitRel (w : World) (m : Nat) (ws : List W3) (v : Value) (wr : World) : Prop := ∃ (left : List W3) (s : List S48), RanIs wr m w.heap.size ws left ∧ RowIs wr w.heap.size v s ∧ s.Pairwise ltD ∧ (s ++ left.map W3.due).Perm (ws.map W3.due) ∧ Below w.heap.size w wr
def WaitIn (w : World) (m : Nat) (ws left' : List W3) (s : List S48) (d : S48) (g1 c : Nat) (vi : Value) (wr : World) : Prop := ∃ A B : List S48, s = A ++ B ∧ vi = .int .i64 (A.length : Int) ∧ RanIs wr m w.heap.size ws left' ∧ LRow wr w.heap.size 48 2 (.slice (some ⟨g1, 0, none⟩) (s.length + 1) c) (s.length + 1) ((A ++ d :: B).flatMap enc2) ∧ (∀ b ∈ B, ltD d b) ∧ Below w.heap.size w wr
theorem ahead_any (x y : S48) (w : World) : Calls Try.prog 24 #[.agg #[.int .i64 x.f0, .int .i64 x.f1], .agg #[.int .i64 y.f0, .int .i64 y.f1]] w fun e w' => e = .returned (.bool (decide (ltD x y))) ∧ Below w.heap.size w w' := by
  refine timer_Due_ahead.calls x.f0 x.f1 y.f0 y.f1 _ w ?_
  unfold timer_Due_ahead.f
  split
  · rename_i h
    have : ltD x y := .inl h
    simp [this]
  · split
    · rename_i h1 h2
      have : (x.f1 < y.f1) ↔ ltD x y := by unfold ltD; omega
      simp [this]
    · rename_i h1 h2
      have : ¬ ltD x y := by unfold ltD; omega
      simp [this]
theorem ran_ne {wr : World} {m r B e size n : Nat} {v : Value} {ws left : List W3} {xs : List Value} (h : RanIs wr m r ws left) (hr : LRow wr B e size v n xs) : ∀ k, v.ownBlock = some k → k ≠ m ∧ k ≠ r := by
  intro k hk
  obtain ⟨_, _, cur, hc⟩ := LRow.lt hr k hk
  obtain ⟨es, clock, since, seen, c0, hb, _, _, _, hq, _⟩ := h
  refine ⟨fun e => ?_, fun e => ?_⟩
  · rw [e, hb] at hc; cases hc
  · rw [e, hq] at hc; cases hc
theorem RanIs.step {W W1 : World} {m r : Nat} {ws left : List W3} (h : RanIs W m r ws left) (hb : Below W.heap.size W W1) : RanIs W1 m r ws left := h.move (hb.block m h.lt.2.1) (hb.block r h.lt.1)
theorem LRow.step {w w1 : World} {B e size n : Nat} {v : Value} {xs : List Value} (h : LRow w B e size v n xs) (hb : Below w.heap.size w w1) : LRow w1 B e size v n xs := h.move (fun k hk => hb.block k (LRow.lt h k hk).1)
theorem ran_row {wr w2 : World} {m r B : Nat} {v : Value} {ws left : List W3} {s : List S48} (h : RanIs wr m r ws left) (hr : RowIs wr B v s) (hk : Keeps [r] wr w2) : RowIs w2 B v s :=
  LRow.move hr (fun k hk2 => hk.block k (LRow.lt hr k hk2).1 (by rw [List.mem_singleton]; exact (ran_ne h hr k hk2).2))
theorem below_keeps {B : Nat} {S : List Nat} {w wr w2 : World} (h : Below B w wr) (hk : Keeps S wr w2) (hB : B ≤ wr.heap.size) (hS : ∀ k ∈ S, B ≤ k) : Below B w w2 :=
  h.trans ⟨hk.os, hk.tape, hk.output, by have := hk.size; omega, fun k hk2 => hk.block k (by omega) (fun hm => by have := hS k hm; omega)⟩
theorem ran_grown {w2 W w3 : World} {m r B e size n : Nat} {v : Value} {ws left : List W3} {xs : List Value} (h : RanIs w2 m r ws left) (hr : LRow w2 B e size v n xs) (hb : Below w2.heap.size w2 W) (hg : W.grownBy w3 v.ownBlock) : RanIs w3 m r ws left := by
  obtain ⟨h1, h2, _⟩ := h.lt
  have := hb.size
  refine h.move ((hg.block m (by omega) (fun e => ?_)).trans (hb.block m h2)) ((hg.block r (by omega) (fun e => ?_)).trans (hb.block r h1))
  · exact (ran_ne h hr m e.symm).1 rfl
  · exact (ran_ne h hr r e.symm).2 rfl
theorem row_some {w : World} {B e size n : Nat} {v : Value} {xs : List Value} (h : LRow w B e size v (n + 1) xs) : ∃ g c, v = .slice (some ⟨g, 0, none⟩) (n + 1) c ∧ B ≤ g ∧ n + 1 ≤ c := by
  rcases h.2 with ⟨_, h3⟩ | ⟨g, cap, cur, h3, h4, h5, h6, h7⟩
  · omega
  · exact ⟨g, cap, h3, h4, h6⟩
theorem cells_at {w : World} {B n c g : Nat} {l : List S48} (h : LRow w B 48 2 (.slice (some ⟨g, 0, none⟩) n c) n (l.flatMap enc2)) (hl : l.length = n) (j : Nat) (x : S48) (hx : l[j]? = some x) : w.cell? ⟨g, j * 2, none⟩ = some (.int .i64 x.f0) ∧ w.cell? ⟨g, j * 2 + 1, none⟩ = some (.int .i64 x.f1) := by
  have h0 := LRow.cell h (j * 2) (.int .i64 x.f0) (by have := flat_get l j 0 (by omega); rw [Nat.add_zero] at this; rw [this, hx]; rfl)
  have h1 := LRow.cell h (j * 2 + 1) (.int .i64 x.f1) (by rw [flat_get l j 1 (by omega), hx]; rfl)
  rw [add_plain] at h0 h1
  exact ⟨h0, h1⟩
theorem swap_list {A B : List S48} {d : S48} {p : Nat} (hA : A.length = p + 1) : ((A ++ d :: B).set (p + 1) (A.getD p z48)).set p d = A.take p ++ d :: (A.getD p z48 :: B) := by
  have e1 : A = A.take p ++ [A.getD p z48] := by
    have h0 : A.getD p z48 = A[p]'(by omega) := by rw [List.getD_eq_getElem?_getD, List.getElem?_eq_getElem (by omega)]; rfl
    have h1 := List.take_succ_eq_append_getElem (l := A) (i := p) (by omega)
    have h2 : A.take (p + 1) = A := List.take_of_length_le (by omega)
    rw [h0]
    exact h2.symm.trans h1
  have e2 : (A.take p).length = p := by rw [List.length_take]; omega
  generalize A.getD p z48 = y at *
  generalize A.take p = A' at *
  subst e1
  subst e2
  simp [List.set_append]
theorem get_mid {A B : List S48} {d : S48} {p : Nat} (hA : A.length = p + 1) : (A ++ d :: B)[p + 1]? = some d ∧ (A ++ d :: B)[p]? = some (A.getD p z48) ∧ A = A.take p ++ [A.getD p z48] ∧ (A.take p).length = p := by
  have h0 : A.getD p z48 = A[p]'(by omega) := by rw [List.getD_eq_getElem?_getD, List.getElem?_eq_getElem (by omega)]; rfl
  refine ⟨by rw [← hA, List.getElem?_append_right (Nat.le_refl _), Nat.sub_self]; rfl, by rw [List.getElem?_append_left (by omega), h0]; exact List.getElem?_eq_getElem _, ?_, by rw [List.length_take]; omega⟩
  have h1 := List.take_succ_eq_append_getElem (l := A) (i := p) (by omega)
  have h2 : A.take (p + 1) = A := List.take_of_length_le (by omega)
  rw [h0]
  exact h2.symm.trans h1
theorem wrap_p (p : Nat) (h : p < 100000) : wrap64 ((p : Int) + 1 - 1) = (p : Int) ∧ wrap64 (p : Int) = (p : Int) := by
  constructor <;> (unfold wrap64; omega)
theorem put_swap {w : World} {B n c g : Nat} {A Bs : List S48} {d : S48} {p : Nat} (hA : A.length = p + 1) (h : LRow w B 48 2 (.slice (some ⟨g, 0, none⟩) n c) n ((A ++ d :: Bs).flatMap enc2)) :
    LRow ((((w.setCell ⟨g, (p + 1) * 2, none⟩ (.int .i64 (A.getD p z48).f0)).setCell ⟨g, (p + 1) * 2 + 1, none⟩ (.int .i64 (A.getD p z48).f1)).setCell ⟨g, p * 2, none⟩ (.int .i64 d.f0)).setCell ⟨g, p * 2 + 1, none⟩ (.int .i64 d.f1)) B 48 2 (.slice (some ⟨g, 0, none⟩) n c) n ((A.take p ++ d :: (A.getD p z48 :: Bs)).flatMap enc2) := by
  rw [← swap_list hA, flat_set, flat_set]
  exact LRow.put (LRow.put (LRow.put (LRow.put h _ _) _ _) _ _) _ _
theorem ran_put {w : World} {B n c g m r : Nat} {ws left : List W3} {xs : List Value} (h : RanIs w m r ws left) (hr : LRow w B 48 2 (.slice (some ⟨g, 0, none⟩) n c) n xs) (a1 a2 a3 a4 : Nat) (u1 u2 u3 u4 : Value) :
    RanIs ((((w.setCell ⟨g, a1, none⟩ u1).setCell ⟨g, a2, none⟩ u2).setCell ⟨g, a3, none⟩ u3).setCell ⟨g, a4, none⟩ u4) m r ws left := by
  obtain ⟨h1, h2⟩ := ran_ne h hr g rfl
  have far : ∀ k, k ≠ g → ((((w.setCell ⟨g, a1, none⟩ u1).setCell ⟨g, a2, none⟩ u2).setCell ⟨g, a3, none⟩ u3).setCell ⟨g, a4, none⟩ u4).heap[k]? = w.heap[k]? := fun k hk =>
    (Below.heap_setCell _ ⟨g, a4, none⟩ _ k hk).trans ((Below.heap_setCell _ ⟨g, a3, none⟩ _ k hk).trans ((Below.heap_setCell _ ⟨g, a2, none⟩ _ k hk).trans (Below.heap_setCell _ ⟨g, a1, none⟩ _ k hk)))
  exact h.move (far m (Ne.symm h1)) (far r (Ne.symm h2))
theorem below_all {s A B A' : List S48} {d y : S48} (hs : s.Pairwise ltD) (hsA : s = A ++ B) (hA : A = A' ++ [y]) (h1 : ¬ ltD d y) (h2 : d ≠ y) : ∀ a ∈ A, ltD a d := by
  have hyd : ltD y d := by
    unfold ltD at *
    have : ¬ (d.f0 = y.f0 ∧ d.f1 = y.f1) := fun h => h2 (by cases d; cases y; simp_all)
    omega
  rw [hsA, List.pairwise_append, hA, List.pairwise_append] at hs
  intro a ha
  rw [hA] at ha
  rcases List.mem_append.1 ha with ha | ha
  · exact ltD_trans (hs.1.2.2 a ha y (by simp)) hyd
  · rw [List.mem_singleton] at ha
    rw [ha]
    exact hyd
theorem d_notin {s r l : List S48} {d : S48} (hl : l.Pairwise ltD) (hp : ((s ++ [d]) ++ r).Perm l) : d ∉ s := by
  intro hd
  have h1 : l.Pairwise (fun a b => a ≠ b) := hl.imp (fun {a b} h e => by rw [e] at h; exact ltD_irrefl b h)
  have h2 := (hp.pairwise_iff (fun {a b} (h : a ≠ b) => h.symm)).2 h1
  rw [List.pairwise_append, List.pairwise_append] at h2
  exact h2.1.2.2 d hd d (by simp) rfl
theorem wait_end {s A B : List S48} {d : S48} (hs : s.Pairwise ltD) (hsA : s = A ++ B) (hB : ∀ b ∈ B, ltD d b) (hA : ∀ a ∈ A, ltD a d) : (A ++ d :: B).Pairwise ltD := by
  rw [hsA, List.pairwise_append] at hs
  rw [List.pairwise_append, List.pairwise_cons]
  refine ⟨hs.1, ⟨hB, hs.2.1⟩, fun a ha b hb => ?_⟩
  rcases List.mem_cons.1 hb with rfl | hb
  · exact hA a ha
  · exact hs.2.2 a ha b hb
set_option maxRecDepth 100000 in
set_option maxHeartbeats 4000000 in
theorem wait_any (g m : Nat) (pv : Value) (now : Nat) (ws : List W3) (w : World) (h : TimAt w g m pv now ws) (hs : Sorted ws) (hl : ws.length ≤ 100000) : Calls Try.prog 18 #[.pointer (some ⟨g, 0, none⟩)] w (WaitPost w ws) := by
  have hc2 := h.c2
  have hdd := due_sorted hs
  have HT := Lib.hid h
  replace hdd := Lib.hid hdd
  have HL := Lib.hid hl
  clear h hs hl
  go_enter Try.func18, Try.ntmps18
  go_wp2_with fail
  refine (there_is _ g m hc2).mono ?_
  rintro e w1 ⟨rfl, rfl⟩
  go_wp2_with (first | (at_range; refine wpList_rangeD _ rfl _ rfl m ws rfl HT.out.map ?_; intro w0 hrg hb0 hs0) | fail)
  go_frame
  go_loopw [3] (fun v wr => WaitRel w m ws v wr) (fun _ wr => wr.rangeLeft m w.heap.size)
  case atStart => exact ⟨ws, [], hrg, RowIs.nil _ _, List.Pairwise.nil, List.Perm.refl _, hb0⟩
  case round =>
    obtain ⟨lf, s, hR, hrow, hsor, hperm, hb⟩ := hrel
    obtain ⟨A1, c1, rfl, hc1⟩ := LRow.slice hrow
    have hmeas := hR.left_eq
    replace hmeas := Lib.hid hmeas
    replace hR := Lib.hid hR
    replace hrow := Lib.hid hrow
    replace hsor := Lib.hid hsor
    replace hperm := Lib.hid hperm
    replace hb := Lib.hid hb
    replace hc1 := Lib.hid hc1
    clear hrg hb0 hs0 hc2
    go_wp2_with (first | (at_next; refine wpList_nextD _ rfl _ rfl m w.heap.size ws lf rfl hR.out ?_ ?_) | fail)
    · intro hl0
      replace hl0 := Lib.hid hl0
      go_wp2_with fail
      go_ret
      refine ⟨_, rfl, ?_, hb.out⟩
      have hp := hperm.out
      rw [hl0.out, List.map_nil, List.append_nil] at hp
      rw [← eq_of_sorted hsor.out hdd.out hp]
      exact hrow.out
    · intro x lf' w2 hpx hR2 hk2 hs2 hen
      replace hR2 := Lib.hid hR2
      have hrow2 := Lib.hid (ran_row hR.out hrow.out hk2)
      have hbw := hb.out.size
      have hb2 := Lib.hid (below_keeps hb.out hk2 hbw (by simp))
      have hsl : s.length ≤ 100000 := by have := hperm.out.length_eq; simp at this; have := HL.out; omega
      have hp2 : Hid (((s ++ [x.due]) ++ lf'.map W3.due).Perm (ws.map W3.due)) := Lib.hid (by
        refine List.Perm.trans ?_ hperm.out
        rw [List.append_assoc]
        exact (hpx.map W3.due).symm.append_left s)
      replace hpx := Lib.hid hpx
      clear hk2 hs2
      generalize hd : x.due = d at *
      have hxt : x.t = d.f0 := by rw [← hd]; rfl
      have hxn : x.n = d.f1 := by rw [← hd]; rfl
      rw [hxt, hxn] at hen ⊢
      replace hd := Lib.hid hd
      clear hxt hxn
      go_wp2_with (first | (at_builtin; refine wpList_append_loose _ w.heap.size rfl (.tmp 18) (.tmp 20) 33 48 _ 2 16 rfl Try.underlying33 info48 rfl (by decide) (by decide) (.slice A1 s.length c1) s.length (s.flatMap enc2) (enc2 d) (some ⟨_, 0, none⟩) 1 1 rfl rfl rfl (fun u hu => flat_one [d] u (by simpa using hu)) ?row ?src ?low ?len ?go) | fail)
      case row => exact RowIs.step hrow2.out (((Below.refl _ _).alloc (Nat.le_refl _) _).alloc (by simp) _)
      case src => exact .inr ⟨_, rfl, by have h := World.news_of_block (cs := #[.int .i64 d.f0, .int .i64 d.f1]) (t := 48) (fr := (0, 0)) (heap_alloc_new (w2.alloc (.cells #[.int .i64 d.f0, .int .i64 d.f1] 48)) (.cells #[.int .i64 d.f0, .int .i64 d.f1] 48)); simpa [enc2] using h⟩
      case low => have := hb2.out.size; simp; omega
      case len => omega
      case go =>
        intro v1 w3 hrow3 hg hr1
        have hbl := ((Below.refl w2.heap.size w2).alloc (Nat.le_refl _) (.cells #[.int .i64 d.f0, .int .i64 d.f1] 48)).alloc (by simp) (.cells #[.int .i64 d.f0, .int .i64 d.f1] 48)
        have hR3 := Lib.hid (ran_grown hR2.out hrow2.out hbl hg)
        have hb3 : Hid (Below w.heap.size w w3) := Lib.hid ((hb2.out.trans (hbl.mono hb2.out.size)).grown hg (Nat.le_trans hb2.out.size hbl.size) (fun k hk => (LRow.lt hrow2.out k hk).2.1))
        obtain ⟨g1, c2, rfl, hg1, _⟩ := row_some hrow3
        rw [← show (s ++ [d]).flatMap enc2 = s.flatMap enc2 ++ enc2 d by rw [flat_append]; simp] at hrow3
        replace hrow3 := Lib.hid hrow3
        clear hg hr1 hbl
        have hw0 : wrap64 ((s.length : Int) + 1 - 1) = (s.length : Int) := by unfold wrap64; omega
        go_wp2_with fail
        go_loopw [5] (fun vi wr => WaitIn w m ws lf' s d g1 c2 vi wr) (fun vi _ => (intOf vi).toNat)
        case atStart => exact ⟨s, [], by simp, (by first | rfl | (simp; done) | (congr 1; omega)), hR3.out, hrow3.out, (by simp), hb3.out⟩
        case round =>
          obtain ⟨A, B, hsAB, rfl, hR4, hrow4, hB, hb4⟩ := hrel
          have hfr : ∀ o, wr.frozen? ⟨g1, o, none⟩ = false := fun o => by
            obtain ⟨_, _, cur, hc⟩ := LRow.lt hrow4 g1 rfl
            exact blk_frozen hc o
          generalize hq : A.length = q at *
          have hlenL : (A ++ d :: B).length = s.length + 1 := by rw [hsAB]; simp; omega
          have hqs : q ≤ s.length := by rw [hsAB, List.length_append]; omega
          replace hR4 := Lib.hid hR4
          replace hB := Lib.hid hB
          replace hb4 := Lib.hid hb4
          replace hw0 := Lib.hid hw0
          rcases Nat.eq_zero_or_pos q with hq0 | hq0
          · subst hq0
            obtain rfl : A = [] := List.eq_nil_of_length_eq_zero hq
            replace hrow4 := Lib.hid hrow4
            replace hsAB := Lib.hid hsAB
            have hd0 : decide ((0 : Int) < 0) = false := by decide
            go_wp2_with fail
            go_quiet (fail)
            go_wp2_with fail
            have hbd := pw_below_drewN (Below.refl wr.heap.size wr) nq
            go_roundw
            case rel => exact ⟨lf', [] ++ d :: B, (RanIs.step hR4.out hbd), (by unfold RowIs; rw [hlenL]; exact LRow.step hrow4.out hbd), wait_end hsor.out hsAB.out hB.out (by simp), by have h5 := hp2.out; rw [hsAB.out] at h5; exact (List.Perm.append_right _ (List.perm_middle.trans (List.perm_append_singleton d ([] ++ B)).symm)).trans h5, hb4.out.trans (hbd.mono hb4.out.size)⟩
            case measure => rw [(RanIs.step hR4.out hbd).left_eq, hmeas.out]; have := hpx.out.length_eq; simp at this; omega
          · obtain ⟨p, rfl⟩ : ∃ p, q = p + 1 := ⟨q - 1, by omega⟩
            obtain ⟨m1, m2, hA1, hAl⟩ := get_mid (B := B) (d := d) hq
            obtain ⟨d0, d1⟩ := cells_at hrow4 hlenL (p + 1) d m1
            obtain ⟨y0, y1⟩ := cells_at hrow4 hlenL p (A.getD p z48) m2
            clear m1 m2
            have hput := put_swap hq hrow4
            have hran := ran_put hR4.out hrow4 ((p + 1) * 2) ((p + 1) * 2 + 1) (p * 2) (p * 2 + 1) (.int .i64 (A.getD p z48).f0) (.int .i64 (A.getD p z48).f1) (.int .i64 d.f0) (.int .i64 d.f1)
            generalize hy : A.getD p z48 = y at *
            have hps : p < 100000 := by omega
            have hg0 : decide ((0 : Int) < (p : Int) + 1) = true := decide_eq_true (by omega)
            have hlt1 : (p : Int) + 1 < (s.length : Int) + 1 := by omega
            have hlt2 : (p : Int) < (s.length : Int) + 1 := by omega
            have hmeas2 : (p : Int).toNat < ((p : Int) + 1).toNat := by omega
            replace hmeas2 := Lib.hid hmeas2
            obtain ⟨hw1, hw2⟩ := wrap_p p hps
            replace hA1 := Lib.hid hA1
            replace hAl := Lib.hid hAl
            replace hy := Lib.hid hy
            replace hrow4 := Lib.hid hrow4
            replace hsAB := Lib.hid hsAB
            replace hput := Lib.hid hput
            replace hran := Lib.hid hran
            replace hlenL := Lib.hid hlenL
            replace hq := Lib.hid hq
            by_cases hlt : ltD d y
            · have hdt : decide (ltD d y) = true := decide_eq_true hlt
              replace hlt := Lib.hid hlt
              go_wp2_with fail
              refine start_ (n := 14) (S := fun w' => (w'.cell? ⟨g1, (p + 1) * 2, none⟩ = some (.int .i64 d.f0) ∧ w'.cell? ⟨g1, (p + 1) * 2 + 1, none⟩ = some (.int .i64 d.f1)) ∧ w'.cell? ⟨g1, p * 2, none⟩ = some (.int .i64 y.f0) ∧ w'.cell? ⟨g1, p * 2 + 1, none⟩ = some (.int .i64 y.f1)) (ds := [12]) #[false, false, false, false, false, false, false, false, false, false, false, false, false, false] (by kernel_rfl) rfl rfl ⟨⟨d0, d1⟩, y0, y1⟩ (fun hHeld => ?_)
              refine pure_ (i := 0) (N := some 25) (v := ?_) (a' := ?_) #[true, false, false, false, false, false, false, false, false, false, false, false, false, false] rfl rfl (by kernel_rfl) (fun _ _ _ h => h) (Or.inl ⟨by rfl, ?_⟩) ?_ ?_
              rotate_left
              · intro w'
                go_simp
                first | with_reducible rfl | rfl
              rotate_left
              · simp only [Act.put, List.setIfInBounds_toArray, List.set_cons_zero, List.set_cons_succ, i64_w, i32_w]
                rfl
              refine pure_ (i := 1) (N := some 26) (v := ?_) (a' := ?_) #[true, true, false, false, false, false, false, false, false, false, false, false, false, false] rfl rfl (by kernel_rfl) (fun _ _ _ h => h) (Or.inl ⟨by rfl, ?_⟩) ?_ ?_
              rotate_left
              · intro w'
                go_simp
                first | with_reducible rfl | rfl
              rotate_left
              · simp only [Act.put, List.setIfInBounds_toArray, List.set_cons_zero, List.set_cons_succ, i64_w, i32_w]
                rfl
              refine pure_ (i := 2) (N := some 27) (v := ?_) (a' := ?_) #[true, true, true, false, false, false, false, false, false, false, false, false, false, false] rfl rfl (by kernel_rfl) (fun _ _ _ h => h) (Or.inl ⟨by rfl, ?_⟩) ?_ ?_
              rotate_left
              · intro w'
                go_simp
                first | with_reducible rfl | rfl
              rotate_left
              · simp only [Act.put, List.setIfInBounds_toArray, List.set_cons_zero, List.set_cons_succ, i64_w, i32_w]
                rfl
              refine pure_ (i := 3) (N := some 28) (v := ?_) (a' := ?_) #[true, true, true, true, false, false, false, false, false, false, false, false, false, false] rfl rfl (by kernel_rfl) (fun _ _ _ h => h) (Or.inl ⟨by rfl, ?_⟩) ?_ ?_
              rotate_left
              · intro w'
                go_simp
                first | with_reducible rfl | rfl
              rotate_left
              · simp only [Act.put, List.setIfInBounds_toArray, List.set_cons_zero, List.set_cons_succ, i64_w, i32_w]
                rfl
              refine pure_ (i := 4) (N := some 29) (v := ?_) (a' := ?_) #[true, true, true, true, true, false, false, false, false, false, false, false, false, false] rfl rfl (by kernel_rfl) (fun _ _ _ h => h) (Or.inl ⟨by rfl, ?_⟩) ?_ ?_
              rotate_left
              · intro w'
                go_simp
                first | with_reducible rfl | rfl
              rotate_left
              · simp only [Act.put, List.setIfInBounds_toArray, List.set_cons_zero, List.set_cons_succ, i64_w, i32_w]
                rfl
              refine pure_ (i := 5) (N := some 30) (v := ?_) (a' := ?_) #[true, true, true, true, true, true, false, false, false, false, false, false, false, false] rfl rfl (by kernel_rfl) (fun _ _ _ h => h) (Or.inl ⟨by rfl, ?_⟩) ?_ ?_
              rotate_left
              · intro w'
                go_simp
                first | with_reducible rfl | rfl
              rotate_left
              · simp only [Act.put, List.setIfInBounds_toArray, List.set_cons_zero, List.set_cons_succ, i64_w, i32_w]
                rfl
              refine pure_ (i := 7) (N := some 32) (v := ?_) (a' := ?_) #[true, true, true, true, true, true, false, true, false, false, false, false, false, false] rfl rfl (by kernel_rfl) (fun _ _ _ h => h) (Or.inl ⟨by rfl, ?_⟩) ?_ ?_
              rotate_left
              · intro w'
                go_simp
                first | with_reducible rfl | rfl
              rotate_left
              · simp only [Act.put, List.setIfInBounds_toArray, List.set_cons_zero, List.set_cons_succ, i64_w, i32_w]
                rfl
              refine pure_ (i := 8) (N := some 33) (v := ?_) (a' := ?_) #[true, true, true, true, true, true, false, true, true, false, false, false, false, false] rfl rfl (by kernel_rfl) (fun _ _ _ h => h) (Or.inl ⟨by rfl, ?_⟩) ?_ ?_
              rotate_left
              · intro w'
                go_simp
                first | with_reducible rfl | rfl
              rotate_left
              · simp only [Act.put, List.setIfInBounds_toArray, List.set_cons_zero, List.set_cons_succ, i64_w, i32_w]
                rfl
              refine pure_ (i := 9) (N := some 34) (v := ?_) (a' := ?_) #[true, true, true, true, true, true, false, true, true, true, false, false, false, false] rfl rfl (by kernel_rfl) (fun _ _ _ h => h) (Or.inl ⟨by rfl, ?_⟩) ?_ ?_
              rotate_left
              · intro w'
                go_simp
                first | with_reducible rfl | rfl
              rotate_left
              · simp only [Act.put, List.setIfInBounds_toArray, List.set_cons_zero, List.set_cons_succ, i64_w, i32_w]
                rfl
              refine pure_ (i := 10) (N := some 35) (v := ?_) (a' := ?_) #[true, true, true, true, true, true, false, true, true, true, true, false, false, false] rfl rfl (by kernel_rfl) (fun _ _ _ h => h) (Or.inl ⟨by rfl, ?_⟩) ?_ ?_
              rotate_left
              · intro w'
                go_simp
                first | with_reducible rfl | rfl
              rotate_left
              · simp only [Act.put, List.setIfInBounds_toArray, List.set_cons_zero, List.set_cons_succ, i64_w, i32_w]
                rfl
              refine take_ (i := 6) (N := some 31) (v := ?_) (a' := ?_) #[true, true, true, true, true, true, true, true, true, true, true, false, false, false] rfl rfl (by kernel_rfl) (fun _ _ _ h => h) (Or.inl ⟨by rfl, ?_⟩) hHeld ?_ ?_
              rotate_left
              · rintro w' ⟨⟨s0, s1⟩, s2, s3⟩
                go_simp
                first | with_reducible rfl | rfl
              rotate_left
              · simp only [Act.put, List.setIfInBounds_toArray, List.set_cons_zero, List.set_cons_succ, i64_w, i32_w]
                rfl
              refine take_ (i := 11) (N := some 36) (v := ?_) (a' := ?_) #[true, true, true, true, true, true, true, true, true, true, true, true, false, false] rfl rfl (by kernel_rfl) (fun _ _ _ h => h) (Or.inl ⟨by rfl, ?_⟩) hHeld ?_ ?_
              rotate_left
              · rintro w' ⟨⟨s0, s1⟩, s2, s3⟩
                go_simp
                first | with_reducible rfl | rfl
              rotate_left
              · simp only [Act.put, List.setIfInBounds_toArray, List.set_cons_zero, List.set_cons_succ, i64_w, i32_w]
                rfl
              refine last_ (i := 12) (N := some 37) #[true, true, true, true, true, true, true, true, true, true, true, true, true, false] rfl rfl (by kernel_rfl) (by decide) (fun K hK => ?_)
              refine goes_ Try.func24 (by kernel_rfl) rfl #[.agg #[.int .i64 d.f0, .int .i64 d.f1], .agg #[.int .i64 y.f0, .int .i64 y.f1]] (by rfl) rfl rfl (by (try simp only [List.map_toArray, List.map_cons, List.map_nil]); first | done | rfl) ?_
              refine (ahead_any d y _).mono ?_
              rintro e w5 ⟨rfl, hb5⟩
              refine ⟨_, rfl, ?_⟩
              have H5 := Lib.hid ((Below.refl wr.heap.size wr).drew.trans hb5)
              clear hb5
              refine hK.out _ _ ?_
              clear hK K
              refine norm_ (a' := ?_) ?_ ?_
              rotate_left
              · show Act.put _ (some 37) _ = _
                simp only [Act.put, List.setIfInBounds_toArray, List.set_cons_zero, List.set_cons_succ, i64_w, i32_w]
                rfl
              refine pure_ (i := 13) (N := some 38) (v := ?_) (a' := ?_) #[true, true, true, true, true, true, true, true, true, true, true, true, true, true] rfl rfl (by kernel_rfl) (fun _ _ _ h => h) (Or.inl ⟨by rfl, ?_⟩) ?_ ?_
              rotate_left
              · intro w'
                go_simp
                first | with_reducible rfl | rfl
              rotate_left
              · simp only [Act.put, List.setIfInBounds_toArray, List.set_cons_zero, List.set_cons_succ, i64_w, i32_w]
                rfl
              refine done_ (by kernel_rfl) ?_
              go_wp2_with fail
              have hbc := H5.out
              obtain ⟨e0, e1⟩ := cells_at (LRow.step hrow4.out hbc) hlenL.out (p + 1) d (get_mid hq.out).1
              obtain ⟨z0, z1⟩ := cells_at (LRow.step hrow4.out hbc) hlenL.out p y (by rw [← hy.out]; exact (get_mid hq.out).2.1)
              have hfr5 : ∀ o, w5.frozen? ⟨g1, o, none⟩ = false := fun o => by
                obtain ⟨_, _, cur, hc⟩ := LRow.lt (LRow.step hrow4.out hbc) g1 rfl
                exact blk_frozen hc o
              have hput5 := put_swap hq.out (LRow.step hrow4.out hbc)
              have hran5 := ran_put (RanIs.step hR4.out hbc) (LRow.step hrow4.out hbc) ((p + 1) * 2) ((p + 1) * 2 + 1) (p * 2) (p * 2 + 1) (.int .i64 y.f0) (.int .i64 y.f1) (.int .i64 d.f0) (.int .i64 d.f1)
              have hb5 : Below w.heap.size w w5 := hb4.out.trans (hbc.mono hb4.out.size)
              have hb6 := (((hb5.setCell (p := ⟨g1, (p + 1) * 2, none⟩) hg1 (.int .i64 y.f0)).setCell (p := ⟨g1, (p + 1) * 2 + 1, none⟩) hg1 (.int .i64 y.f1)).setCell (p := ⟨g1, p * 2, none⟩) hg1 (.int .i64 d.f0)).setCell (p := ⟨g1, p * 2 + 1, none⟩) hg1 (.int .i64 d.f1)
              rw [hy.out] at hput5
              replace hput5 := Lib.hid hput5
              replace hran5 := Lib.hid hran5
              replace hb6 := Lib.hid hb6
              clear d0 d1 y0 y1 hfr hbc hb5
              refine start_ (n := 18) (S := fun w' => (w'.cell? ⟨g1, (p + 1) * 2, none⟩ = some (.int .i64 d.f0) ∧ w'.cell? ⟨g1, (p + 1) * 2 + 1, none⟩ = some (.int .i64 d.f1)) ∧ w'.cell? ⟨g1, p * 2, none⟩ = some (.int .i64 y.f0) ∧ w'.cell? ⟨g1, p * 2 + 1, none⟩ = some (.int .i64 y.f1)) (ds := [15, 17]) #[false, false, false, false, false, false, false, false, false, false, false, false, false, false, false, false, false, false] (by kernel_rfl) rfl rfl ⟨⟨e0, e1⟩, z0, z1⟩ (fun hHeld => ?_)
              refine pure_ (i := 0) (N := some 41) (v := ?_) (a' := ?_) #[true, false, false, false, false, false, false, false, false, false, false, false, false, false, false, false, false, false] rfl rfl (by kernel_rfl) (fun _ _ _ h => h) (Or.inl ⟨by rfl, ?_⟩) ?_ ?_
              rotate_left
              · intro w'
                go_simp
                first | with_reducible rfl | rfl
              rotate_left
              · simp only [Act.put, List.setIfInBounds_toArray, List.set_cons_zero, List.set_cons_succ, i64_w, i32_w]
                rfl
              refine pure_ (i := 1) (N := some 42) (v := ?_) (a' := ?_) #[true, true, false, false, false, false, false, false, false, false, false, false, false, false, false, false, false, false] rfl rfl (by kernel_rfl) (fun _ _ _ h => h) (Or.inl ⟨by rfl, ?_⟩) ?_ ?_
              rotate_left
              · intro w'
                go_simp
                first | with_reducible rfl | rfl
              rotate_left
              · simp only [Act.put, List.setIfInBounds_toArray, List.set_cons_zero, List.set_cons_succ, i64_w, i32_w]
                rfl
              refine pure_ (i := 2) (N := some 43) (v := ?_) (a' := ?_) #[true, true, true, false, false, false, false, false, false, false, false, false, false, false, false, false, false, false] rfl rfl (by kernel_rfl) (fun _ _ _ h => h) (Or.inl ⟨by rfl, ?_⟩) ?_ ?_
              rotate_left
              · intro w'
                go_simp
                first | with_reducible rfl | rfl
              rotate_left
              · simp only [Act.put, List.setIfInBounds_toArray, List.set_cons_zero, List.set_cons_succ, i64_w, i32_w]
                rfl
              refine pure_ (i := 3) (N := some 44) (v := ?_) (a' := ?_) #[true, true, true, true, false, false, false, false, false, false, false, false, false, false, false, false, false, false] rfl rfl (by kernel_rfl) (fun _ _ _ h => h) (Or.inl ⟨by rfl, ?_⟩) ?_ ?_
              rotate_left
              · intro w'
                go_simp
                first | with_reducible rfl | rfl
              rotate_left
              · simp only [Act.put, List.setIfInBounds_toArray, List.set_cons_zero, List.set_cons_succ, i64_w, i32_w]
                rfl
              refine pure_ (i := 4) (N := some 45) (v := ?_) (a' := ?_) #[true, true, true, true, true, false, false, false, false, false, false, false, false, false, false, false, false, false] rfl rfl (by kernel_rfl) (fun _ _ _ h => h) (Or.inl ⟨by rfl, ?_⟩) ?_ ?_
              rotate_left
              · intro w'
                go_simp
                first | with_reducible rfl | rfl
              rotate_left
              · simp only [Act.put, List.setIfInBounds_toArray, List.set_cons_zero, List.set_cons_succ, i64_w, i32_w]
                rfl
              refine pure_ (i := 5) (N := some 46) (v := ?_) (a' := ?_) #[true, true, true, true, true, true, false, false, false, false, false, false, false, false, false, false, false, false] rfl rfl (by kernel_rfl) (fun _ _ _ h => h) (Or.inl ⟨by rfl, ?_⟩) ?_ ?_
              rotate_left
              · intro w'
                go_simp
                first | with_reducible rfl | rfl
              rotate_left
              · simp only [Act.put, List.setIfInBounds_toArray, List.set_cons_zero, List.set_cons_succ, i64_w, i32_w]
                rfl
              refine pure_ (i := 6) (N := some 47) (v := ?_) (a' := ?_) #[true, true, true, true, true, true, true, false, false, false, false, false, false, false, false, false, false, false] rfl rfl (by kernel_rfl) (fun _ _ _ h => h) (Or.inl ⟨by rfl, ?_⟩) ?_ ?_
              rotate_left
              · intro w'
                go_simp
                first | with_reducible rfl | rfl
              rotate_left
              · simp only [Act.put, List.setIfInBounds_toArray, List.set_cons_zero, List.set_cons_succ, i64_w, i32_w]
                rfl
              refine pure_ (i := 7) (N := some 48) (v := ?_) (a' := ?_) #[true, true, true, true, true, true, true, true, false, false, false, false, false, false, false, false, false, false] rfl rfl (by kernel_rfl) (fun _ _ _ h => h) (Or.inl ⟨by rfl, ?_⟩) ?_ ?_
              rotate_left
              · intro w'
                go_simp
                first | with_reducible rfl | rfl
              rotate_left
              · simp only [Act.put, List.setIfInBounds_toArray, List.set_cons_zero, List.set_cons_succ, i64_w, i32_w]
                rfl
              refine pure_ (i := 8) (N := some 49) (v := ?_) (a' := ?_) #[true, true, true, true, true, true, true, true, true, false, false, false, false, false, false, false, false, false] rfl rfl (by kernel_rfl) (fun _ _ _ h => h) (Or.inl ⟨by rfl, ?_⟩) ?_ ?_
              rotate_left
              · intro w'
                go_simp
                first | with_reducible rfl | rfl
              rotate_left
              · simp only [Act.put, List.setIfInBounds_toArray, List.set_cons_zero, List.set_cons_succ, i64_w, i32_w]
                rfl
              refine pure_ (i := 10) (N := some 51) (v := ?_) (a' := ?_) #[true, true, true, true, true, true, true, true, true, false, true, false, false, false, false, false, false, false] rfl rfl (by kernel_rfl) (fun _ _ _ h => h) (Or.inl ⟨by rfl, ?_⟩) ?_ ?_
              rotate_left
              · intro w'
                go_simp
                first | with_reducible rfl | rfl
              rotate_left
              · simp only [Act.put, List.setIfInBounds_toArray, List.set_cons_zero, List.set_cons_succ, i64_w, i32_w]
                rfl
              refine pure_ (i := 11) (N := some 52) (v := ?_) (a' := ?_) #[true, true, true, true, true, true, true, true, true, false, true, true, false, false, false, false, false, false] rfl rfl (by kernel_rfl) (fun _ _ _ h => h) (Or.inl ⟨by rfl, ?_⟩) ?_ ?_
              rotate_left
              · intro w'
                go_simp
                first | with_reducible rfl | rfl
              rotate_left
              · simp only [Act.put, List.setIfInBounds_toArray, List.set_cons_zero, List.set_cons_succ, i64_w, i32_w]
                rfl
              refine pure_ (i := 12) (N := some 53) (v := ?_) (a' := ?_) #[true, true, true, true, true, true, true, true, true, false, true, true, true, false, false, false, false, false] rfl rfl (by kernel_rfl) (fun _ _ _ h => h) (Or.inl ⟨by rfl, ?_⟩) ?_ ?_
              rotate_left
              · intro w'
                go_simp
                first | with_reducible rfl | rfl
              rotate_left
              · simp only [Act.put, List.setIfInBounds_toArray, List.set_cons_zero, List.set_cons_succ, i64_w, i32_w]
                rfl
              refine take_ (i := 9) (N := some 50) (v := ?_) (a' := ?_) #[true, true, true, true, true, true, true, true, true, true, true, true, true, false, false, false, false, false] rfl rfl (by kernel_rfl) (fun _ _ _ h => h) (Or.inl ⟨by rfl, ?_⟩) hHeld ?_ ?_
              rotate_left
              · rintro w' ⟨⟨s0, s1⟩, s2, s3⟩
                go_simp
                first | with_reducible rfl | rfl
              rotate_left
              · simp only [Act.put, List.setIfInBounds_toArray, List.set_cons_zero, List.set_cons_succ, i64_w, i32_w]
                rfl
              refine take_ (i := 13) (N := some 54) (v := ?_) (a' := ?_) #[true, true, true, true, true, true, true, true, true, true, true, true, true, true, false, false, false, false] rfl rfl (by kernel_rfl) (fun _ _ _ h => h) (Or.inl ⟨by rfl, ?_⟩) hHeld ?_ ?_
              rotate_left
              · rintro w' ⟨⟨s0, s1⟩, s2, s3⟩
                go_simp
                first | with_reducible rfl | rfl
              rotate_left
              · simp only [Act.put, List.setIfInBounds_toArray, List.set_cons_zero, List.set_cons_succ, i64_w, i32_w]
                rfl
              refine pure_ (i := 14) (N := some 55) (v := ?_) (a' := ?_) #[true, true, true, true, true, true, true, true, true, true, true, true, true, true, true, false, false, false] rfl rfl (by kernel_rfl) (fun _ _ _ h => h) (Or.inl ⟨by rfl, ?_⟩) ?_ ?_
              rotate_left
              · intro w'
                go_simp
                first | with_reducible rfl | rfl
              rotate_left
              · simp only [Act.put, List.setIfInBounds_toArray, List.set_cons_zero, List.set_cons_succ, i64_w, i32_w]
                rfl
              refine last_ (i := 15) (N := none) #[true, true, true, true, true, true, true, true, true, true, true, true, true, true, true, true, false, false] rfl rfl (by kernel_rfl) (by decide) (fun K hK => ?_)
              refine skip_ (w1 := ?_) (by rfl) rfl ?_ ?_
              rotate_left
              · go_simp
                rfl
              refine hK.out _ _ ?_
              clear hK K
              refine pure_ (i := 16) (N := some 56) (v := ?_) (a' := ?_) #[true, true, true, true, true, true, true, true, true, true, true, true, true, true, true, true, true, false] rfl rfl (by kernel_rfl) (fun _ _ _ h => h) (Or.inl ⟨by rfl, ?_⟩) ?_ ?_
              rotate_left
              · intro w'
                go_simp
                first | with_reducible rfl | rfl
              rotate_left
              · simp only [Act.put, List.setIfInBounds_toArray, List.set_cons_zero, List.set_cons_succ, i64_w, i32_w]
                rfl
              refine last_ (i := 17) (N := none) #[true, true, true, true, true, true, true, true, true, true, true, true, true, true, true, true, true, true] rfl rfl (by kernel_rfl) (by decide) (fun K hK => ?_)
              refine skip_ (w1 := ?_) (by rfl) rfl ?_ ?_
              rotate_left
              · go_simp
                rfl
              refine hK.out _ _ ?_
              clear hK K
              refine done_ (by kernel_rfl) ?_
              go_wp2_with fail
              go_roundw
              case rel => exact ⟨A.take p, y :: B, hsAB.out.trans ((congrArg (· ++ B) hA1.out).trans (by simp)), by rw [hAl.out], hran5.out, hput5.out, (fun b hb => by
                rcases List.mem_cons.1 hb with rfl | hb
                · exact hlt.out
                · exact hB.out b hb), hb6.out.drew⟩
              case measure => simp [intOf]
            · have hdt : decide (ltD d y) = false := decide_eq_false hlt
              have hall := below_all hsor.out hsAB.out hA1.out hlt (fun e => d_notin hdd.out hp2.out (by rw [hsAB.out, hA1.out, e]; simp))
              replace hall := Lib.hid hall
              replace hlt := Lib.hid hlt
              go_wp2_with fail
              refine start_ (n := 14) (S := fun w' => (w'.cell? ⟨g1, (p + 1) * 2, none⟩ = some (.int .i64 d.f0) ∧ w'.cell? ⟨g1, (p + 1) * 2 + 1, none⟩ = some (.int .i64 d.f1)) ∧ w'.cell? ⟨g1, p * 2, none⟩ = some (.int .i64 y.f0) ∧ w'.cell? ⟨g1, p * 2 + 1, none⟩ = some (.int .i64 y.f1)) (ds := [12]) #[false, false, false, false, false, false, false, false, false, false, false, false, false, false] (by kernel_rfl) rfl rfl ⟨⟨d0, d1⟩, y0, y1⟩ (fun hHeld => ?_)
              refine pure_ (i := 0) (N := some 25) (v := ?_) (a' := ?_) #[true, false, false, false, false, false, false, false, false, false, false, false, false, false] rfl rfl (by kernel_rfl) (fun _ _ _ h => h) (Or.inl ⟨by rfl, ?_⟩) ?_ ?_
              rotate_left
              · intro w'
                go_simp
                first | with_reducible rfl | rfl
              rotate_left
              · simp only [Act.put, List.setIfInBounds_toArray, List.set_cons_zero, List.set_cons_succ, i64_w, i32_w]
                rfl
              refine pure_ (i := 1) (N := some 26) (v := ?_) (a' := ?_) #[true, true, false, false, false, false, false, false, false, false, false, false, false, false] rfl rfl (by kernel_rfl) (fun _ _ _ h => h) (Or.inl ⟨by rfl, ?_⟩) ?_ ?_
              rotate_left
              · intro w'
                go_simp
                first | with_reducible rfl | rfl
              rotate_left
              · simp only [Act.put, List.setIfInBounds_toArray, List.set_cons_zero, List.set_cons_succ, i64_w, i32_w]
                rfl
              refine pure_ (i := 2) (N := some 27) (v := ?_) (a' := ?_) #[true, true, true, false, false, false, false, false, false, false, false, false, false, false] rfl rfl (by kernel_rfl) (fun _ _ _ h => h) (Or.inl ⟨by rfl, ?_⟩) ?_ ?_
              rotate_left
              · intro w'
                go_simp
                first | with_reducible rfl | rfl
              rotate_left
              · simp only [Act.put, List.setIfInBounds_toArray, List.set_cons_zero, List.set_cons_succ, i64_w, i32_w]
                rfl
              refine pure_ (i := 3) (N := some 28) (v := ?_) (a' := ?_) #[true, true, true, true, false, false, false, false, false, false, false, false, false, false] rfl rfl (by kernel_rfl) (fun _ _ _ h => h) (Or.inl ⟨by rfl, ?_⟩) ?_ ?_
              rotate_left
              · intro w'
                go_simp
                first | with_reducible rfl | rfl
              rotate_left
              · simp only [Act.put, List.setIfInBounds_toArray, List.set_cons_zero, List.set_cons_succ, i64_w, i32_w]
                rfl
              refine pure_ (i := 4) (N := some 29) (v := ?_) (a' := ?_) #[true, true, true, true, true, false, false, false, false, false, false, false, false, false] rfl rfl (by kernel_rfl) (fun _ _ _ h => h) (Or.inl ⟨by rfl, ?_⟩) ?_ ?_
              rotate_left
              · intro w'
                go_simp
                first | with_reducible rfl | rfl
              rotate_left
              · simp only [Act.put, List.setIfInBounds_toArray, List.set_cons_zero, List.set_cons_succ, i64_w, i32_w]
                rfl
              refine pure_ (i := 5) (N := some 30) (v := ?_) (a' := ?_) #[true, true, true, true, true, true, false, false, false, false, false, false, false, false] rfl rfl (by kernel_rfl) (fun _ _ _ h => h) (Or.inl ⟨by rfl, ?_⟩) ?_ ?_
              rotate_left
              · intro w'
                go_simp
                first | with_reducible rfl | rfl
              rotate_left
              · simp only [Act.put, List.setIfInBounds_toArray, List.set_cons_zero, List.set_cons_succ, i64_w, i32_w]
                rfl
              refine pure_ (i := 7) (N := some 32) (v := ?_) (a' := ?_) #[true, true, true, true, true, true, false, true, false, false, false, false, false, false] rfl rfl (by kernel_rfl) (fun _ _ _ h => h) (Or.inl ⟨by rfl, ?_⟩) ?_ ?_
              rotate_left
              · intro w'
                go_simp
                first | with_reducible rfl | rfl
              rotate_left
              · simp only [Act.put, List.setIfInBounds_toArray, List.set_cons_zero, List.set_cons_succ, i64_w, i32_w]
                rfl
              refine pure_ (i := 8) (N := some 33) (v := ?_) (a' := ?_) #[true, true, true, true, true, true, false, true, true, false, false, false, false, false] rfl rfl (by kernel_rfl) (fun _ _ _ h => h) (Or.inl ⟨by rfl, ?_⟩) ?_ ?_
              rotate_left
              · intro w'
                go_simp
                first | with_reducible rfl | rfl
              rotate_left
              · simp only [Act.put, List.setIfInBounds_toArray, List.set_cons_zero, List.set_cons_succ, i64_w, i32_w]
                rfl
              refine pure_ (i := 9) (N := some 34) (v := ?_) (a' := ?_) #[true, true, true, true, true, true, false, true, true, true, false, false, false, false] rfl rfl (by kernel_rfl) (fun _ _ _ h => h) (Or.inl ⟨by rfl, ?_⟩) ?_ ?_
              rotate_left
              · intro w'
                go_simp
                first | with_reducible rfl | rfl
              rotate_left
              · simp only [Act.put, List.setIfInBounds_toArray, List.set_cons_zero, List.set_cons_succ, i64_w, i32_w]
                rfl
              refine pure_ (i := 10) (N := some 35) (v := ?_) (a' := ?_) #[true, true, true, true, true, true, false, true, true, true, true, false, false, false] rfl rfl (by kernel_rfl) (fun _ _ _ h => h) (Or.inl ⟨by rfl, ?_⟩) ?_ ?_
              rotate_left
              · intro w'
                go_simp
                first | with_reducible rfl | rfl
              rotate_left
              · simp only [Act.put, List.setIfInBounds_toArray, List.set_cons_zero, List.set_cons_succ, i64_w, i32_w]
                rfl
              refine take_ (i := 6) (N := some 31) (v := ?_) (a' := ?_) #[true, true, true, true, true, true, true, true, true, true, true, false, false, false] rfl rfl (by kernel_rfl) (fun _ _ _ h => h) (Or.inl ⟨by rfl, ?_⟩) hHeld ?_ ?_
              rotate_left
              · rintro w' ⟨⟨s0, s1⟩, s2, s3⟩
                go_simp
                first | with_reducible rfl | rfl
              rotate_left
              · simp only [Act.put, List.setIfInBounds_toArray, List.set_cons_zero, List.set_cons_succ, i64_w, i32_w]
                rfl
              refine take_ (i := 11) (N := some 36) (v := ?_) (a' := ?_) #[true, true, true, true, true, true, true, true, true, true, true, true, false, false] rfl rfl (by kernel_rfl) (fun _ _ _ h => h) (Or.inl ⟨by rfl, ?_⟩) hHeld ?_ ?_
              rotate_left
              · rintro w' ⟨⟨s0, s1⟩, s2, s3⟩
                go_simp
                first | with_reducible rfl | rfl
              rotate_left
              · simp only [Act.put, List.setIfInBounds_toArray, List.set_cons_zero, List.set_cons_succ, i64_w, i32_w]
                rfl
              refine last_ (i := 12) (N := some 37) #[true, true, true, true, true, true, true, true, true, true, true, true, true, false] rfl rfl (by kernel_rfl) (by decide) (fun K hK => ?_)
              refine goes_ Try.func24 (by kernel_rfl) rfl #[.agg #[.int .i64 d.f0, .int .i64 d.f1], .agg #[.int .i64 y.f0, .int .i64 y.f1]] (by rfl) rfl rfl (by (try simp only [List.map_toArray, List.map_cons, List.map_nil]); first | done | rfl) ?_
              refine (ahead_any d y _).mono ?_
              rintro e w5 ⟨rfl, hb5⟩
              refine ⟨_, rfl, ?_⟩
              have H5 := Lib.hid ((Below.refl wr.heap.size wr).drew.trans hb5)
              clear hb5
              refine hK.out _ _ ?_
              clear hK K
              refine norm_ (a' := ?_) ?_ ?_
              rotate_left
              · show Act.put _ (some 37) _ = _
                simp only [Act.put, List.setIfInBounds_toArray, List.set_cons_zero, List.set_cons_succ, i64_w, i32_w]
                rfl
              refine pure_ (i := 13) (N := some 38) (v := ?_) (a' := ?_) #[true, true, true, true, true, true, true, true, true, true, true, true, true, true] rfl rfl (by kernel_rfl) (fun _ _ _ h => h) (Or.inl ⟨by rfl, ?_⟩) ?_ ?_
              rotate_left
              · intro w'
                go_simp
                first | with_reducible rfl | rfl
              rotate_left
              · simp only [Act.put, List.setIfInBounds_toArray, List.set_cons_zero, List.set_cons_succ, i64_w, i32_w]
                rfl
              refine done_ (by kernel_rfl) ?_
              go_wp2_with fail
              have hbc := H5.out
              go_roundw
              case rel => exact ⟨lf', A ++ d :: B, (RanIs.step hR4.out hbc), (by unfold RowIs; rw [hlenL.out]; exact LRow.step hrow4.out hbc), wait_end hsor.out hsAB.out hB.out hall.out, by have h5 := hp2.out; rw [hsAB.out] at h5; exact (List.Perm.append_right _ (List.perm_middle.trans (List.perm_append_singleton d (A ++ B)).symm)).trans h5, hb4.out.trans (hbc.mono hb4.out.size)⟩
              case measure => rw [(RanIs.step hR4.out hbc).left_eq, hmeas.out]; have := hpx.out.length_eq; simp at this; omega
      
end Go.Proofs.Ytdpfbmhdbnkdaaa.Tm
