/- The map of what waits: which entries it holds, whatever their order in memory. -/
import Derived.Test.YtdpfbmhdbnkdaaaHas
import Derived.Test.YtdpfbmhdbnkdaaaProg
import Derived.DeepKeys4
import Derived.Maps.Range
import Derived.Maps.Keyed
import Derived.KernelRfl
set_option linter.unusedVariables false
namespace Go.Proofs.Ytdpfbmhdbnkdaaa.Tm
open Go Go.RowKit Go.Proofs.Ytdpfbmhdbnkdaaa Go.MapKept
open Go.ChangeMaps (setBlock modify_eq_set)
open Go.Maps (Keyed)
/-- a release: the task, the nominal slot, when it is due -/
structure W3 where
  t : Int
  n : Int
  a : Int
deriving DecidableEq
def keyV (t n : Int) : Value := .agg #[.int .i64 t, .int .i64 n]
def W3.kv (x : W3) : Value × Value := (keyV x.t x.n, .int .i64 x.a)
def In64 (x : Int) : Prop := -9223372036854775808 ≤ x ∧ x ≤ 9223372036854775807
theorem laidOut : laidOutB Try.prog = true := by kernel_rfl
theorem law48 : Keyed Try.prog 48 := Keyed.of_law (deep_law_laid laidOut (m := 2) (by omega) (of_decide_eq_true (by kernel_rfl)) (by kernel_rfl) (by kernel_rfl))
theorem wf64 {x : Int} (h : In64 x) : (Lit.int .i64 x).wf = true := by
  simp only [Lit.wf, Bool.and_eq_true, decide_eq_true_eq]
  have e0 : IntKind.i64.min = -9223372036854775808 := by decide
  have e1 : IntKind.i64.max = 9223372036854775807 := by decide
  unfold In64 at h
  omega
theorem lits48 {t n : Int} (h1 : (Lit.int .i64 t).wf = true) (h2 : (Lit.int .i64 n).wf = true) (d : Nat) (hd : 2 ≤ d) : Try.prog.keyLits d 48 [.int .i64 t, .int .i64 n] = some [.int .i64 t, .int .i64 n] := by
  obtain ⟨d, rfl⟩ : ∃ k, d = k + 2 := ⟨d - 2, by omega⟩
  have hc : Try.prog.cellsOf 48 = 2 := by kernel_rfl
  have hc3 : Try.prog.cellsOf 3 = 1 := by kernel_rfl
  simp only [Program.keyLits, Try.underlying48, hc]
  simp [Try.underlying3, hc3, h1, h2]
theorem formed48 (t n : Int) : (Value.agg #[.int .i64 t, .int .i64 n]).formed Try.prog 48 = true := by
  have hc : Try.prog.cellsOf 48 = 2 := by kernel_rfl
  simp [Value.formed, Try.underlying48, hc]
theorem keyOf_struct {P : Program} {k : TypeId} {fs : Array Field} (hu : P.underlying k = some (.struct fs)) {v : Value} {ls : List Lit} (h1 : P.keyType k = true) (h2 : v.formed P k = true) (h3 : P.keyLits (P.types.size + 1) k v.cells.toList = some ls) : keyOf P k v = some (.string (keyBytes ls)) := by
  unfold keyOf
  rw [hu]
  simp only [h1, h2, Bool.and_self, if_true, h3, Option.map_some]
theorem keyV_is {t n : Int} (ht : In64 t) (hn : In64 n) : ∃ l, keyOf Try.prog 48 (keyV t n) = some l := by
  have hs : 1 ≤ Try.prog.types.size := of_decide_eq_true (by kernel_rfl)
  exact ⟨_, keyOf_struct Try.underlying48 (by kernel_rfl) (formed48 t n) (lits48 (wf64 ht) (wf64 hn) _ (Nat.succ_le_succ hs))⟩
theorem perm_eraseIdx {α : Type} {l : List α} {j : Nat} (h : j < l.length) : l.Perm (l[j] :: l.eraseIdx j) := by
  have e1 : l = l.take j ++ l[j] :: l.drop (j + 1) := by rw [← List.drop_eq_getElem_cons h, List.take_append_drop]
  rw [List.eraseIdx_eq_take_drop_succ]
  exact (List.Perm.of_eq e1).trans List.perm_middle
/-- block m is the map of what waits: its entries, in whatever order -/
def MapIs (W : World) (m : Nat) (ws : List W3) : Prop := ∃ es clock, W.heap[m]? = some (.map es clock) ∧ Stamped es clock ∧ (es.toList.map fun e => (e.key, e.val)).Perm (ws.map W3.kv) ∧ ∀ x ∈ ws, In64 x.t ∧ In64 x.n
theorem keyV_inj {a b c d : Int} (h : keyV a b = keyV c d) : a = c ∧ b = d := by
  unfold keyV at h
  injection h with h
  have h2 := congrArg Array.toList h
  simp at h2
  exact h2
theorem MapIs.move {W W' : World} {m : Nat} {ws : List W3} (h : MapIs W m ws) (hm : W'.heap[m]? = W.heap[m]?) : MapIs W' m ws := by
  obtain ⟨es, clock, h1, h2⟩ := h
  exact ⟨es, clock, hm.trans h1, h2⟩
theorem MapIs.lt {W : World} {m : Nat} {ws : List W3} (h : MapIs W m ws) : m < W.heap.size := by
  obtain ⟨es, clock, h1, _⟩ := h
  exact (Array.getElem?_eq_some_iff.1 h1).1
theorem MapIs.perm {W : World} {m : Nat} {ws ws' : List W3} (h : MapIs W m ws) (hp : ws.Perm ws') : MapIs W m ws' := by
  obtain ⟨es, clock, h1, h2, h3, h4⟩ := h
  exact ⟨es, clock, h1, h2, h3.trans (hp.map _), fun x hx => h4 x (hp.mem_iff.2 hx)⟩
theorem MapIs.made (W : World) : MapIs (W.alloc (.map #[] 0)) W.heap.size [] := ⟨#[], 0, (MapKept.heap_alloc W _).1, stamped_empty 0, by simp, by simp⟩
section
variable {W : World} {m : Nat} {ws : List W3}
theorem keys_of {es : Array MapEntry} (hp : (es.toList.map fun e => (e.key, e.val)).Perm (ws.map W3.kv)) (hr : ∀ x ∈ ws, In64 x.t ∧ In64 x.n) : ∀ e ∈ es.toList, ∃ l, keyOf Try.prog 48 e.key = some l := by
  intro e he
  have h1 : (e.key, e.val) ∈ ws.map W3.kv := hp.mem_iff.1 (List.mem_map.2 ⟨e, he, rfl⟩)
  obtain ⟨x, hx, hxe⟩ := List.mem_map.1 h1
  have : e.key = keyV x.t x.n := (congrArg Prod.fst hxe).symm
  rw [this]
  exact keyV_is (hr x hx).1 (hr x hx).2
theorem MapIs.distinct (h : MapIs W m ws) : ws.Pairwise (fun x y => ¬ (x.t = y.t ∧ x.n = y.n)) := by
  obtain ⟨es, clock, h1, h2, h3, h4⟩ := h
  have hk := ((stamped_iff es clock).1 h2).2.2
  have h5 : (es.toList.map fun e => (e.key, e.val)).Pairwise (fun a b => a.1 ≠ b.1) := List.pairwise_map.2 hk
  have h6 := (h3.pairwise_iff (fun {a b} (h : a.1 ≠ b.1) => h.symm)).1 h5
  exact (List.pairwise_map.1 h6).imp (fun {a b} hab he => hab (by simp [W3.kv, keyV, he.1, he.2]))
/-- 'm[k] = v' at a key that is not there -/
theorem MapIs.store (h : MapIs W m ws) (hl : ws.length < maxLen) (t n a : Int) (ht : In64 t) (hn : In64 n) (hnew : ∀ x ∈ ws, ¬ (x.t = t ∧ x.n = n)) :
    ∃ W', (Instr.mapUpdate 51 (.map (some m)) (keyV t n) (.int .i64 a)).run Try.prog W = .ok () W' ∧ MapIs W' m (⟨t, n, a⟩ :: ws) ∧ Keeps [m] W W' := by
  obtain ⟨es, clock, hb, hst, hp, hr⟩ := h
  obtain ⟨kl, hkey⟩ := keyV_is ht hn
  have hes := keys_of hp hr
  have hsz : es.size = ws.length := by have := hp.length_eq; simpa using this
  have hno : ∀ e ∈ es.toList, e.key ≠ keyV t n := by
    intro e he hek
    have h1 : (e.key, e.val) ∈ ws.map W3.kv := hp.mem_iff.1 (List.mem_map.2 ⟨e, he, rfl⟩)
    obtain ⟨x, hx, hxe⟩ := List.mem_map.1 h1
    have h2 : keyV x.t x.n = keyV t n := (congrArg Prod.fst hxe).trans hek
    exact hnew x hx (keyV_inj h2)
  rcases law48.find W hkey es.toList hes with ⟨h1, h2⟩ | ⟨j, e0, h1, h2, h3⟩
  · refine ⟨setBlock W m (.map (es.push ⟨keyV t n, .int .i64 a, clock⟩) (clock + 1)), ?_, ⟨_, _, ChangeMaps.heap_setBlock_same hb _, stamped_push hst h2, ?_, ?_⟩, ⟨rfl, rfl, rfl, by simp [setBlock], fun i _ hi => ChangeMaps.heap_setBlock_other hb _ (fun e => hi (by simp [e]))⟩⟩
    · simp [Instr.mapUpdate, run_underlying Try.underlying51, MapKept.run_getObj_map hb, law48.check W false hkey, h1, MapKept.run_setObj_map _ hb, Result.andThen, setBlock]
      try omega
    · simp only [Array.toList_push, List.map_append, List.map_cons, List.map_nil]
      exact List.perm_append_singleton _ _ |>.trans (by simpa [W3.kv] using hp)
    · intro x hx
      rcases List.mem_cons.1 hx with rfl | hx
      · exact ⟨ht, hn⟩
      · exact hr x hx
  · exact absurd h3 (hno e0 (List.mem_of_getElem? h2))
/-- 'm[k]' at a key that is there -/
theorem MapIs.look (h : MapIs W m ws) (x : W3) (hx : x ∈ ws) : (Instr.lookup 51 (.map (some m)) (keyV x.t x.n) false).run Try.prog W = .ok (.int .i64 x.a) W := by
  obtain ⟨es, clock, hb, hst, hp, hr⟩ := h
  obtain ⟨kl, hkey⟩ := keyV_is (hr x hx).1 (hr x hx).2
  have hes := keys_of hp hr
  have h1 : (keyV x.t x.n, Value.int .i64 x.a) ∈ es.toList.map fun e => (e.key, e.val) := hp.mem_iff.2 (List.mem_map.2 ⟨x, hx, rfl⟩)
  obtain ⟨e, he, hee⟩ := List.mem_map.1 h1
  simp only [Prod.mk.injEq] at hee
  rcases law48.find W hkey es.toList hes with ⟨h1, h2⟩ | ⟨j, e0, h1, h2, h3⟩
  · exact absurd hee.1 (h2 e he)
  · have hm0 : e0 ∈ es.toList := List.mem_of_getElem? h2
    have hk := ((stamped_iff es clock).1 hst).2.2
    have e1 : e0 = e := entry_eq_of_key hk hm0 he (h3.trans hee.1.symm)
    rw [e1, hee.2] at h1
    simp [Instr.lookup, run_underlying Try.underlying51, MapKept.run_getObj_map hb, law48.check W _ hkey, h1, Result.andThen]
/-- 'delete(m, k)' at a key that is there -/
theorem MapIs.drop {ty : TypeId} (x : W3) (h : MapIs W m (x :: ws)) : ∃ W', (Builtin.delete_ #[51, 48] ty #[.map (some m), keyV x.t x.n]).run Try.prog W = .ok (.tuple #[]) W' ∧ MapIs W' m ws ∧ Keeps [m] W W' := by
  obtain ⟨es, clock, hb, hst, hp, hr⟩ := h
  have hrx := hr x (by simp)
  obtain ⟨kl, hkey⟩ := keyV_is hrx.1 hrx.2
  have hes := keys_of hp hr
  have h1 : (keyV x.t x.n, Value.int .i64 x.a) ∈ es.toList.map fun e => (e.key, e.val) := hp.mem_iff.2 (by simp [W3.kv])
  obtain ⟨e, he, hee⟩ := List.mem_map.1 h1
  simp only [Prod.mk.injEq] at hee
  rcases law48.find W hkey es.toList hes with ⟨h1, h2⟩ | ⟨j, e0, h1, h2, h3⟩
  · exact absurd hee.1 (h2 e he)
  · have hm0 : e0 ∈ es.toList := List.mem_of_getElem? h2
    have hk := ((stamped_iff es clock).1 hst).2.2
    have e1 : e0 = e := entry_eq_of_key hk hm0 he (h3.trans hee.1.symm)
    subst e1
    have hjl : j < es.toList.length := (List.getElem?_eq_some_iff.1 h2).1
    have hjs : j < es.size := by simpa using hjl
    have hsub : (es.eraseIdxIfInBounds j).toList = es.toList.eraseIdx j := by
      unfold Array.eraseIdxIfInBounds
      rw [dif_pos hjs]
      simp
    refine ⟨setBlock W m (.map (es.eraseIdxIfInBounds j) clock), ?_, ⟨_, _, ChangeMaps.heap_setBlock_same hb _, stamped_erase hst j, ?_, fun y hy => hr y (by simp [hy])⟩, ⟨rfl, rfl, rfl, by simp [setBlock], fun i _ hi => ChangeMaps.heap_setBlock_other hb _ (fun e => hi (by simp [e]))⟩⟩
    · simp [Builtin.delete_, run_underlying Try.underlying51, MapKept.run_getObj_map hb, law48.check W _ hkey, h1, MapKept.run_setObj_map _ hb, Result.andThen, setBlock]
    · rw [hsub]
      have hel : es.toList[j] = e0 := by
        have := List.getElem?_eq_some_iff.1 h2
        exact this.2
      have hpe : es.toList.Perm (e0 :: es.toList.eraseIdx j) := by
        have := perm_eraseIdx hjl
        rwa [hel] at this
      have h4 := (hpe.map fun e => (e.key, e.val)).symm.trans hp
      rw [List.map_cons, List.map_cons] at h4
      have e2 : (e0.key, e0.val) = x.kv := by simp [W3.kv, hee.1, hee.2]
      rw [e2] at h4
      exact (List.perm_cons _).1 h4
end
/-- a range over the map is under way: what is still to come -/
def RanIs (W : World) (m r : Nat) (ws left : List W3) : Prop := ∃ es clock since seen c0, W.heap[m]? = some (.map es clock) ∧ Stamped es clock ∧ (es.toList.map fun e => (e.key, e.val)).Perm (ws.map W3.kv) ∧ (∀ x ∈ ws, In64 x.t ∧ In64 x.n) ∧
  W.heap[r]? = some (.mapIter (some m) since seen c0) ∧ (∀ x ∈ es.toList, x.born < since) ∧ since ≤ c0 ∧ since ≤ clock ∧ ((leftOf es seen).toList.map fun e => (e.key, e.val)).Perm (left.map W3.kv)
theorem RanIs.map {W : World} {m r : Nat} {ws left : List W3} (h : RanIs W m r ws left) : MapIs W m ws := by
  obtain ⟨es, clock, since, seen, c0, h1, h2, h3, h4, _⟩ := h
  exact ⟨es, clock, h1, h2, h3, h4⟩
theorem RanIs.lt {W : World} {m r : Nat} {ws left : List W3} (h : RanIs W m r ws left) : r < W.heap.size ∧ m < W.heap.size ∧ r ≠ m := by
  obtain ⟨es, clock, since, seen, c0, h1, h2, h3, h4, h5, _⟩ := h
  refine ⟨(Array.getElem?_eq_some_iff.1 h5).1, (Array.getElem?_eq_some_iff.1 h1).1, fun e => ?_⟩
  rw [e, h1] at h5
  cases h5
theorem RanIs.move {W W' : World} {m r : Nat} {ws left : List W3} (h : RanIs W m r ws left) (hm : W'.heap[m]? = W.heap[m]?) (hr : W'.heap[r]? = W.heap[r]?) : RanIs W' m r ws left := by
  obtain ⟨es, clock, since, seen, c0, h1, h2, h3, h4, h5, h6⟩ := h
  exact ⟨es, clock, since, seen, c0, hm.trans h1, h2, h3, h4, hr.trans h5, h6⟩
theorem RanIs.perm {W : World} {m r : Nat} {ws left left' : List W3} (h : RanIs W m r ws left) (hp : left.Perm left') : RanIs W m r ws left' := by
  obtain ⟨es, clock, since, seen, c0, h1, h2, h3, h4, h5, h6, h7, h8, h9⟩ := h
  exact ⟨es, clock, since, seen, c0, h1, h2, h3, h4, h5, h6, h7, h8, h9.trans (hp.map _)⟩
/-- 'range m' -/
theorem MapIs.range {W : World} {m : Nat} {ws : List W3} (h : MapIs W m ws) : ∃ W', (Instr.range 51 (.map (some m))).run Try.prog W = .ok (.pointer (some ⟨W.heap.size, 0, none⟩)) W' ∧ RanIs W' m W.heap.size ws ws ∧ Below W.heap.size W W' ∧ W'.heap.size = W.heap.size + 1 := by
  have hlt := h.lt
  obtain ⟨es, clock, hb, hst, hp, hr⟩ := h
  refine ⟨_, run_range_map W 51 48 3 m es clock Try.underlying51 hb, ⟨es, clock, clock, #[], clock, ((MapKept.heap_alloc W _).2 m hlt).trans hb, hst, hp, hr, (MapKept.heap_alloc W _).1, ((stamped_iff es clock).1 hst).1, Nat.le_refl _, Nat.le_refl _, ?_⟩, (Below.refl _ _).alloc (Nat.le_refl _) _, by simp⟩
  have e1 : leftOf es #[] = es := by
    unfold leftOf
    exact Array.filter_eq_self.2 (fun x hx => by simp)
  rw [e1]
  exact hp
/-- the step -/
theorem RanIs.next {W : World} {m r : Nat} {ws left : List W3} (h : RanIs W m r ws left) (ty : TypeId) :
    (left = [] ∧ (Instr.next (.pointer (some ⟨r, 0, none⟩)) false ty).run Try.prog W = .ok (.tuple #[.bool false]) W) ∨
    ∃ x left' W', left.Perm (x :: left') ∧ (Instr.next (.pointer (some ⟨r, 0, none⟩)) false ty).run Try.prog W = .ok (.tuple #[.bool true, keyV x.t x.n, .int .i64 x.a]) W' ∧ RanIs W' m r ws left' ∧ Keeps [r] W W' ∧ W'.heap.size = W.heap.size ∧
      (Instr.entry (.pointer (some ⟨r, 0, none⟩))).run Try.prog W' = .ok (.tuple #[keyV x.t x.n, .int .i64 x.a]) W' := by
  obtain ⟨hrl, hml, hne⟩ := h.lt
  obtain ⟨es, clock, since, seen, c0, hb, hst, hp, hin, hr, hold, hsc, hsk, hl⟩ := h
  have hst' := (stamped_iff es clock).1 hst
  rcases run_next_at (P := Try.prog) W ty r m since c0 seen es clock hr hb hold hsc with ⟨h0, hrun⟩ | ⟨e, he, w1, hal, hrun⟩
  · left
    refine ⟨?_, hrun⟩
    have := hl.length_eq
    simp [h0] at this
    exact List.eq_nil_of_length_eq_zero this.symm
  · right
    obtain ⟨hem, hes⟩ := Go.mem_left he
    have h1 : (e.key, e.val) ∈ left.map W3.kv := hl.mem_iff.1 (List.mem_map.2 ⟨e, he, rfl⟩)
    obtain ⟨x, hx, hxe⟩ := List.mem_map.1 h1
    have hk : e.key = keyV x.t x.n := (congrArg Prod.fst hxe).symm
    have hv : e.val = .int .i64 x.a := (congrArg Prod.snd hxe).symm
    obtain ⟨q, hq, hqe⟩ := List.getElem_of_mem hx
    have hpx : left.Perm (x :: left.eraseIdx q) := by
      have := perm_eraseIdx hq
      rwa [hqe] at this
    have hr1 : w1.heap[r]? = some (.mapIter (some m) since seen c0) := by rcases hal with rfl | rfl <;> exact hr
    have hb1 : w1.heap[m]? = some (.map es clock) := by rcases hal with rfl | rfl <;> exact hb
    have hset := heap_set (o' := .mapIter (some m) since (seen.push e.born) clock) hr1
    have hb' : (setBlock w1 r (.mapIter (some m) since (seen.push e.born) clock)).heap[m]? = some (.map es clock) := (hset.2 m (fun e1 => hne e1.symm)).trans hb1
    have hleft : ((leftOf es (seen.push e.born)).toList.map fun e => (e.key, e.val)).Perm ((left.eraseIdx q).map W3.kv) := by
      have hnd : ((leftOf es seen).toList.map (·.born)).Nodup := by
        have : ((leftOf es seen).toList.map (·.born)).Sublist (es.toList.map (·.born)) := by
          unfold leftOf
          rw [Array.toList_filter]
          exact List.Sublist.map _ List.filter_sublist
        exact this.nodup hst'.2.1
      obtain ⟨i, hi, hie⟩ := List.getElem_of_mem he
      have e1 : (leftOf es (seen.push e.born)).toList = (leftOf es seen).toList.filter (fun y => !(y.born == e.born)) := by
        unfold leftOf
        rw [Array.toList_filter, Array.toList_filter, List.filter_filter]
        refine List.filter_congr (fun y _ => ?_)
        rw [contains_push]
        cases seen.contains y.born <;> cases (y.born == e.born) <;> rfl
      have hp2 : (leftOf es seen).toList.Perm (e :: (leftOf es seen).toList.eraseIdx i) := by
        have := perm_eraseIdx hi
        rwa [hie] at this
      have hnd2 : (e.born :: ((leftOf es seen).toList.eraseIdx i).map (·.born)).Nodup := (List.Perm.nodup_iff (hp2.map (fun y : MapEntry => y.born))).1 hnd
      have e2 : ((leftOf es seen).toList.filter (fun y => !(y.born == e.born))).Perm ((leftOf es seen).toList.eraseIdx i) := by
        refine (hp2.filter _).trans ?_
        rw [List.filter_cons]
        simp only [beq_self_eq_true, Bool.not_true, Bool.false_eq_true, if_false]
        refine List.Perm.of_eq (List.filter_eq_self.2 (fun y hy => ?_))
        have := (List.nodup_cons.1 hnd2).1
        have hyb : y.born ≠ e.born := fun e3 => this (e3 ▸ List.mem_map.2 ⟨y, hy, rfl⟩)
        simpa using hyb
      rw [e1]
      have h5 := (hp2.map fun e => (e.key, e.val)).symm.trans (hl.trans (hpx.map _))
      rw [List.map_cons, List.map_cons] at h5
      have e4 : (e.key, e.val) = x.kv := by simp [W3.kv, hk, hv]
      rw [e4] at h5
      exact (e2.map _).trans ((List.perm_cons _).1 h5)
    refine ⟨x, left.eraseIdx q, setBlock w1 r (.mapIter (some m) since (seen.push e.born) clock), hpx, by rw [hrun, hk, hv], ⟨es, clock, since, seen.push e.born, clock, hb', hst, hp, hin, hset.1, hold, hsk, hsk, hleft⟩, ?_, ?_, ?_⟩
    · rcases hal with rfl | rfl <;> exact ⟨rfl, rfl, rfl, by simp [setBlock], fun i _ hi => hset.2 i (fun e1 => hi (by simp [e1]))⟩
    · rcases hal with rfl | rfl <;> simp [setBlock]
    · rw [← hk, ← hv]
      exact run_entry_at _ r m since seen es clock e hset.1 hb' hem hst'.2.1
end Go.Proofs.Ytdpfbmhdbnkdaaa.Tm
