/- A set, a job variable and a row of truths at once; the first of the best. -/
import Derived.Test.YtojdbpeaclnmkaaRdBox
set_option linter.unusedVariables false
set_option linter.unusedSimpArgs false
namespace Go.Proofs.Ytojdbpeaclnmkaa.Rd
open Go Go.RowKit Go.Proofs.YtojdbpeaclnmkaaW.PrintWords Go.Proofs.YtojdbpeaclnmkaaW.PrintLast Go.Proofs.YtojdbpeaclnmkaaW.PrintMore Go.Proofs.Ytojdbpeaclnmkaa Go.Proofs.Ytojdbpeaclnmkaa.Print
attribute [local go_sem] max2_int min2_int max_two min_two
/-- one set, one job variable (block lb), one row of truths (block sb) -/
structure OrdIs (w W : World) (g lb sb : Nat) (m : List S30) (x : S30) (bs : Array Bool) : Prop where
  below : Below w.heap.size w W
  set : ∃ v, SetIs 58 30 W w.heap.size g v m ∧ v.ownBlock ≠ some lb ∧ v.ownBlock ≠ some sb
  last : W.heap[lb]? = some (.cells #[.int .i64 x.f0, .int .i64 x.f1, .int .i64 x.f2] 30 (0, 0))
  seen : W.heap[sb]? = some (.cells (bs.map Value.bool) 4 (0, 0))
  low : w.heap.size ≤ lb ∧ w.heap.size ≤ sb
  ne : lb ≠ sb ∧ g ≠ lb ∧ g ≠ sb
theorem OrdIs.step {w W W1 : World} {g lb sb : Nat} {m : List S30} {x : S30} {bs : Array Bool} (h : OrdIs w W g lb sb m x bs) (hb : Below W.heap.size W W1) : OrdIs w W1 g lb sb m x bs := by
  obtain ⟨v, hv, h1, h2⟩ := h.set
  exact ⟨h.below.trans (hb.mono h.below.size), ⟨v, hv.step hb, h1, h2⟩, (hb.block _ (blk_lt h.last)).trans h.last, (hb.block _ (blk_lt h.seen)).trans h.seen, h.low, h.ne⟩
theorem OrdIs.start {w W W1 : World} {g lb sb : Nat} {m : List S30} {x : S30} {bs : Array Bool} (h : Sts w W [(.set g, m)]) (hb : Below W.heap.size W W1) (hl : W.heap.size ≤ lb) (hs : W.heap.size ≤ sb) (hne : lb ≠ sb)
    (h1 : W1.heap[lb]? = some (.cells #[.int .i64 x.f0, .int .i64 x.f1, .int .i64 x.f2] 30 (0, 0))) (h2 : W1.heap[sb]? = some (.cells (bs.map Value.bool) 4 (0, 0))) : OrdIs w W1 g lb sb m x bs := by
  obtain ⟨v, hv⟩ := Sts.get (L1 := []) h
  have hg := hv.lt
  have hsz := h.size
  have hr : ∀ k, v.ownBlock = some k → k < W.heap.size := fun k hk => (LRow.lt hv.row k hk).1
  exact ⟨h.below.trans (hb.mono hsz), ⟨v, hv.step hb, fun e => by have := hr _ e; omega, fun e => by have := hr _ e; omega⟩, h1, h2, ⟨by omega, by omega⟩, ⟨hne, by omega, by omega⟩⟩
theorem OrdIs.take {w W : World} {g lb sb : Nat} {m : List S30} {x : S30} {bs : Array Bool} (h : OrdIs w W g lb sb m x bs) (hl : m.length ≤ 10000) (a p : Int) (h0 : 0 < (places m (mxp m)).length) (ha : a < mxp m) :
    Calls Try.prog 14 #[.pointer (some ⟨g, 0, none⟩), .int .i64 a, .int .i64 p] W fun e w' => e = .returned (.tuple #[.agg #[.int .i64 (m.getD (pickPlace m p) z30).f0, .int .i64 (m.getD (pickPlace m p) z30).f1, .int .i64 (m.getD (pickPlace m p) z30).f2], .bool true]) ∧ OrdIs w w' g lb sb (m.eraseIdx (pickPlace m p)) x bs := by
  obtain ⟨v, hv, h1, h2⟩ := h.set
  refine (takeYes g _ v m a p W hv h.below.size hl h0 ha).mono ?_
  rintro e w' ⟨he, v', hs', ho, hat⟩
  have hll := blk_lt h.last
  have hsl := blk_lt h.seen
  have hne : ∀ k, k < W.heap.size → v.ownBlock ≠ some k → v'.ownBlock ≠ some k := by
    intro k hk hn hk'
    rcases hat with h4 | ⟨b, h4, h5⟩
    · exact hn (h4 ▸ hk')
    · rw [h4] at hk'
      injection hk' with e
      omega
  exact ⟨he, ho.below h.below h.below.size hv.lo (fun k hkk => (LRow.lt hv.row k hkk).2.1), ⟨v', hs', hne _ hll h1, hne _ hsl h2⟩, (ho.block lb hll (fun e => h.ne.2.1 e.symm) (fun e => h1 e.symm)).trans h.last, (ho.block sb hsl (fun e => h.ne.2.2 e.symm) (fun e => h2 e.symm)).trans h.seen, h.low, h.ne⟩
theorem OrdIs.takeNo {w W : World} {g lb sb : Nat} {m : List S30} {x : S30} {bs : Array Bool} (h : OrdIs w W g lb sb m x bs) : Sts w W [(.set g, m)] := by
  obtain ⟨v, hv, h1, h2⟩ := h.set
  exact ⟨[⟨.set g, v, m⟩], rfl, h.below, fun y hy => by rw [List.mem_singleton] at hy; subst hy; exact hv, List.pairwise_singleton _ _⟩
theorem OrdIs.all {w W : World} {g lb sb : Nat} {m : List S30} {x : S30} {bs : Array Bool} (h : OrdIs w W g lb sb m x bs) (hl : m.length ≤ 10000) : Calls Try.prog 19 #[.pointer (some ⟨g, 0, none⟩)] W fun e w' => ∃ A c, e = .returned (.slice A m.length c) ∧ OrdIs w w' g lb sb m x bs := by
  obtain ⟨v, hv, h1, h2⟩ := h.set
  refine (allOf g _ v m W hv hl).mono ?_
  rintro e w' ⟨va, rfl, hr, hb⟩
  obtain ⟨A, c, rfl, hc⟩ := LRow.slice hr
  exact ⟨A, c, rfl, h.step hb⟩
/-- a truth is set -/
theorem OrdIs.mark {w W : World} {g lb sb : Nat} {m : List S30} {x : S30} {bs : Array Bool} (h : OrdIs w W g lb sb m x bs) (q : Nat) : OrdIs w (W.setCell ⟨sb, q, none⟩ (.bool true)) g lb sb m x (bs.setIfInBounds q true) := by
  obtain ⟨v, hv, h1, h2⟩ := h.set
  have far : ∀ k, k ≠ sb → (W.setCell ⟨sb, q, none⟩ (.bool true)).heap[k]? = W.heap[k]? := fun k hk => Below.heap_setCell _ ⟨sb, q, none⟩ _ k hk
  refine ⟨h.below.setCell (p := ⟨sb, q, none⟩) h.low.2 _, ⟨v, hv.move (far g h.ne.2.2) (fun k hk => far k (fun e => h2 (e ▸ hk))), h1, h2⟩, (far lb h.ne.1).trans h.last, ?_, h.low, h.ne⟩
  rw [Array.map_setIfInBounds]
  exact blk_set h.seen q _
/-- the job variable is written -/
theorem OrdIs.put {w W : World} {g lb sb : Nat} {m : List S30} {x : S30} {bs : Array Bool} (h : OrdIs w W g lb sb m x bs) (a b c : Int) : OrdIs w (((W.setCell ⟨lb, 0, none⟩ (.int .i64 a)).setCell ⟨lb, 1, none⟩ (.int .i64 b)).setCell ⟨lb, 2, none⟩ (.int .i64 c)) g lb sb m ⟨a, b, c⟩ bs := by
  obtain ⟨v, hv, h1, h2⟩ := h.set
  have far : ∀ k, k ≠ lb → (((W.setCell ⟨lb, 0, none⟩ (.int .i64 a)).setCell ⟨lb, 1, none⟩ (.int .i64 b)).setCell ⟨lb, 2, none⟩ (.int .i64 c)).heap[k]? = W.heap[k]? := fun k hk =>
    (Below.heap_setCell _ ⟨lb, 2, none⟩ _ k hk).trans ((Below.heap_setCell _ ⟨lb, 1, none⟩ _ k hk).trans (Below.heap_setCell _ ⟨lb, 0, none⟩ _ k hk))
  exact ⟨((h.below.setCell (p := ⟨lb, 0, none⟩) h.low.1 _).setCell (p := ⟨lb, 1, none⟩) h.low.1 _).setCell (p := ⟨lb, 2, none⟩) h.low.1 _, ⟨v, hv.move (far g h.ne.2.1) (fun k hk => far k (fun e => h1 (e ▸ hk))), h1, h2⟩,
    (blk_set (blk_set (blk_set h.last 0 _) 1 _) 2 _).trans rfl, (far sb (Ne.symm h.ne.1)).trans h.seen, h.low, h.ne⟩
theorem OrdIs.lastAt {w W : World} {g lb sb : Nat} {m : List S30} {x : S30} {bs : Array Bool} (h : OrdIs w W g lb sb m x bs) : W.cell? ⟨lb, 0, none⟩ = some (.int .i64 x.f0) ∧ W.cell? ⟨lb, 1, none⟩ = some (.int .i64 x.f1) ∧ W.cell? ⟨lb, 2, none⟩ = some (.int .i64 x.f2) ∧ (∀ o, W.frozen? ⟨lb, o, none⟩ = false) :=
  ⟨(blk_cell h.last 0).trans rfl, (blk_cell h.last 1).trans rfl, (blk_cell h.last 2).trans rfl, fun o => blk_frozen h.last o⟩
theorem OrdIs.seenAt {w W : World} {g lb sb : Nat} {m : List S30} {x : S30} {bs : Array Bool} (h : OrdIs w W g lb sb m x bs) {q : Nat} {b : Bool} (hq : bs[q]? = some b) : W.cell? ⟨sb, q, none⟩ = some (.bool b) ∧ W.frozen? ⟨sb, q, none⟩ = false :=
  ⟨(blk_cell h.seen q).trans (by rw [Array.getElem?_map, hq]; rfl), blk_frozen h.seen q⟩
/-- all before the first of the best are none of the best -/
theorem placesFrom_first (p : Int) : ∀ (l : List S30) (n : Nat) (x : Int) (r : List Int), placesFrom p n l = x :: r → ∃ i : Nat, x = ((n + i : Nat) : Int) ∧ ∀ k, k < i → (l.getD k z30).f1 ≠ p := by
  intro l
  induction l with
  | nil => intro n x r h; cases h
  | cons y l ih =>
    intro n x r h
    rw [placesFrom] at h
    split at h
    · rename_i hy
      injection h with h _
      exact ⟨0, by rw [Nat.add_zero]; exact h.symm, fun k hk => by omega⟩
    · rename_i hy
      obtain ⟨i, h1, h2⟩ := ih (n + 1) x r h
      refine ⟨i + 1, by rw [h1]; omega, fun k hk => ?_⟩
      cases k with
      | zero => exact hy
      | succ k => exact h2 k (by omega)
theorem first_best (l : List S30) (h : 0 < (places l (mxp l)).length) : ∀ k, k < pickPlace l 0 → (l.getD k z30).f1 ≠ mxp l := by
  intro k hk
  unfold pickPlace at hk
  rw [Int.zero_emod] at hk
  obtain ⟨x, r, hx⟩ : ∃ x r, places l (mxp l) = x :: r := by
    cases hp : places l (mxp l) with
    | nil => rw [hp] at h; simp at h
    | cons x r => exact ⟨x, r, rfl⟩
  obtain ⟨i, h1, h2⟩ := placesFrom_first (mxp l) l 0 x r hx
  rw [hx] at hk
  simp at hk
  exact h2 k (by omega)
/-- what stands in a round: the jobs that are left (m), the last one taken (x), the marks (bs) -/
structure OrdOk (N : Nat) (all : Bool) (m : List S30) (x : S30) (bs : Array Bool) : Prop where
  good : Good m
  size : bs.size = N
  inside : ∀ j ∈ m, 0 ≤ j.f2 ∧ j.f2 < (N : Int) ∧ bs[j.f2.toNat]? = some false
  inc : m.Pairwise (fun a b => a.f2 < b.f2)
  prio : ∀ j ∈ m, j.f1 ≤ x.f1
  first : all = true → ∀ j ∈ m, j.f1 = x.f1 → x.f2 ≤ j.f2
theorem OrdOk.next {N : Nat} {all : Bool} {m : List S30} {x : S30} {bs : Array Bool} (h : OrdOk N all m x bs) (p : Int) (hp : all = true → p = 0) (h0 : 0 < (places m (mxp m)).length) :
    ∃ q : Nat, (m.getD (pickPlace m p) z30).f2 = (q : Int) ∧ q < N ∧ bs[q]? = some false ∧ (m.getD (pickPlace m p) z30).f1 ≤ x.f1 ∧ (all = true → (m.getD (pickPlace m p) z30).f1 = x.f1 → x.f2 ≤ (q : Int)) ∧
    OrdOk N all (m.eraseIdx (pickPlace m p)) (m.getD (pickPlace m p) z30) (bs.setIfInBounds q true) := by
  obtain ⟨_, h1, h2⟩ := pick_spec m p h0
  have hmem : m.getD (pickPlace m p) z30 ∈ m := by
    rw [List.getD_eq_getElem?_getD, List.getElem?_eq_getElem h1]
    exact List.getElem_mem h1
  have hfirst : all = true → ∀ k, k < pickPlace m p → (m.getD k z30).f1 ≠ mxp m := by
    intro ha
    rw [hp ha]
    exact first_best m h0
  obtain ⟨g1, g2, g3⟩ := h.inside _ hmem
  have hgd : m.getD (pickPlace m p) z30 = m[pickPlace m p] := by rw [List.getD_eq_getElem?_getD, List.getElem?_eq_getElem h1]; rfl
  have hor : ∀ j ∈ m.eraseIdx (pickPlace m p), ∃ k, ∃ hk : k < m.length, k ≠ pickPlace m p ∧ j = m[k] := by
    intro j hj
    rw [List.mem_eraseIdx_iff_getElem] at hj
    obtain ⟨k, hk, h3, h4⟩ := hj
    exact ⟨k, hk, h3, h4.symm⟩
  have hinc := List.pairwise_iff_getElem.1 h.inc
  generalize hi : pickPlace m p = i at *
  generalize hx : m.getD i z30 = y at *
  refine ⟨y.f2.toNat, by omega, by omega, g3, h.prio _ hmem, fun ha he => by have := h.first ha _ hmem he; omega, ?_⟩
  refine ⟨h.good.erase i, by rw [Array.size_setIfInBounds]; exact h.size, fun j hj => ?_, List.Pairwise.sublist (List.eraseIdx_sublist m i) h.inc, fun j hj => ?_, fun ha j hj he => ?_⟩
  · obtain ⟨k, hk, h3, rfl⟩ := hor j hj
    obtain ⟨j1, j2, j3⟩ := h.inside _ (List.getElem_mem hk)
    refine ⟨j1, j2, ?_⟩
    rw [Array.getElem?_setIfInBounds_ne]
    · exact j3
    · intro e
      rcases Nat.lt_or_gt_of_ne h3 with h5 | h5
      · have := hinc k i hk h1 h5
        rw [← hgd] at this
        omega
      · have := hinc i k h1 hk h5
        rw [← hgd] at this
        omega
  · rw [h2]
    exact mxp_ge m j (List.mem_of_mem_eraseIdx hj)
  · obtain ⟨k, hk, h3, rfl⟩ := hor j hj
    rcases Nat.lt_or_gt_of_ne h3 with h5 | h5
    · exfalso
      refine hfirst ha k h5 ?_
      rw [List.getD_eq_getElem?_getD, List.getElem?_eq_getElem hk, ← h2]
      exact he
    · have := hinc i k h1 hk h5
      rw [← hgd] at this
      omega
end Go.Proofs.Ytojdbpeaclnmkaa.Rd
