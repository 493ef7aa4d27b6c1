/- ReadyPlays: whatever is put and taken, in whatever order: what is told, and what is there, is as the document says. -/
import Derived.Test.YtojdbpeaclnmkaaRRef
import Derived.Test.YtojdbpeaclnmkaaRdOrd
set_option linter.unusedVariables false
set_option linter.unusedSimpArgs false
namespace Go.Proofs.Ytojdbpeaclnmkaa.Rd
open Go Go.RowKit Go.Proofs.YtojdbpeaclnmkaaW.PrintWords Go.Proofs.YtojdbpeaclnmkaaW.PrintLast Go.Proofs.YtojdbpeaclnmkaaW.PrintMore Go.Proofs.Ytojdbpeaclnmkaa Go.Proofs.Ytojdbpeaclnmkaa.Print
attribute [local go_sem] max2_int min2_int max_two min_two
/-- the set (block g, jobs l) and the document's one (block r, jobs m) -/
structure PlayIs (w W : World) (g r : Nat) (l m : List S30) : Prop where
  below : Below w.heap.size w W
  set : ∃ v, SetIs 58 30 W w.heap.size g v l
  ref : ∃ u, SetIs 28 36 W w.heap.size r u m
theorem SetIs.apart {T E T' E' : Nat} {w : World} {B B' g g' : Nat} {v v' : Value} {l l' : List S30} (h : SetIs T E w B g v l) (h' : SetIs T' E' w B' g' v' l') (h1 : T ≠ T') (h2 : T ≠ E') (h3 : E ≠ T') (h4 : E ≠ E') :
    g ≠ g' ∧ some g ≠ v'.ownBlock ∧ v.ownBlock ≠ some g' ∧ (v.ownBlock = none ∨ v.ownBlock ≠ v'.ownBlock) := by
  refine ⟨fun e => ?_, fun e => ?_, fun e => ?_, ?_⟩
  · have := h.blk
    rw [e, h'.blk] at this
    injection this with this
    injection this with _ this
    exact h1 this.symm
  · obtain ⟨_, _, cur, hc⟩ := LRow.lt h'.row g e.symm
    rw [h.blk] at hc
    injection hc with hc
    injection hc with _ hc
    exact h2 hc
  · obtain ⟨_, _, cur, hc⟩ := LRow.lt h.row g' e
    rw [h'.blk] at hc
    injection hc with hc
    injection hc with _ hc
    exact h3 hc.symm
  · cases hv : v.ownBlock with
    | none => exact .inl rfl
    | some q =>
      refine .inr (fun e => ?_)
      obtain ⟨_, _, cur, hc⟩ := LRow.lt h.row q hv
      obtain ⟨_, _, cur', hc'⟩ := LRow.lt h'.row q e.symm
      rw [hc] at hc'
      injection hc' with hc'
      injection hc' with _ hc'
      exact h4 hc'
/-- what a change of the set, of the document's one, keeps: every other block -/
def KeepS (W W1 : World) : Prop := ∀ (b : Nat) (cs : Array Value) (T : Nat), W.heap[b]? = some (.cells cs T (0, 0)) → T ≠ 58 → T ≠ 30 → W1.heap[b]? = some (.cells cs T (0, 0))
def KeepR (W W1 : World) : Prop := ∀ (b : Nat) (cs : Array Value) (T : Nat), W.heap[b]? = some (.cells cs T (0, 0)) → T ≠ 28 → T ≠ 36 → W1.heap[b]? = some (.cells cs T (0, 0))
theorem keep_only {T E B g b T' : Nat} {v : Value} {l : List S30} {W W1 : World} {cs : Array Value} (h : SetIs T E W B g v l) (ho : Only g v.ownBlock W W1) (hb : W.heap[b]? = some (.cells cs T' (0, 0))) (h1 : T' ≠ T) (h2 : T' ≠ E) : W1.heap[b]? = some (.cells cs T' (0, 0)) := by
  refine (ho.block b (Array.getElem?_eq_some_iff.1 hb).1 (fun e => ?_) (fun e => ?_)).trans hb
  · have := h.blk
    rw [← e, hb] at this
    injection this with this
    injection this with _ this
    exact h1 this
  · obtain ⟨_, _, cur, hc⟩ := LRow.lt h.row b e.symm
    rw [hb] at hc
    injection hc with hc
    injection hc with _ hc
    exact h2 hc
theorem KeepS.below {W W1 : World} (h : Below W.heap.size W W1) : KeepS W W1 := fun b cs T hb _ _ => (h.block b (Array.getElem?_eq_some_iff.1 hb).1).trans hb
theorem KeepR.below {W W1 : World} (h : Below W.heap.size W W1) : KeepR W W1 := fun b cs T hb _ _ => (h.block b (Array.getElem?_eq_some_iff.1 hb).1).trans hb
section
variable {w W W1 : World} {g r : Nat} {l m l' : List S30}
theorem PlayIs.step (h : PlayIs w W g r l m) (hb : Below W.heap.size W W1) : PlayIs w W1 g r l m := by
  obtain ⟨v, hv⟩ := h.set
  obtain ⟨u, hu⟩ := h.ref
  exact ⟨h.below.trans (hb.mono h.below.size), ⟨v, hv.step hb⟩, ⟨u, hu.step hb⟩⟩
theorem PlayIs.left (h : PlayIs w W g r l m) (hl : ∀ v, SetIs 58 30 W w.heap.size g v l → ∃ v', SetIs 58 30 W1 w.heap.size g v' l' ∧ Only g v.ownBlock W W1) : PlayIs w W1 g r l' m := by
  obtain ⟨v, hv⟩ := h.set
  obtain ⟨u, hu⟩ := h.ref
  obtain ⟨v', hv', ho⟩ := hl v hv
  obtain ⟨a1, a2, a3, a4⟩ := SetIs.apart hu hv (by decide) (by decide) (by decide) (by decide)
  exact ⟨ho.below h.below h.below.size hv.lo (fun k hk => (LRow.lt hv.row k hk).2.1), ⟨v', hv'⟩, ⟨u, SetIs.far (T' := 0) (E' := 0) (B' := 0) (l' := []) hu ho a1 a2 a3 a4⟩⟩
theorem PlayIs.right (h : PlayIs w W g r l m) (hl : ∀ v, SetIs 28 36 W w.heap.size r v m → ∃ v', SetIs 28 36 W1 w.heap.size r v' l' ∧ Only r v.ownBlock W W1) : PlayIs w W1 g r l l' := by
  obtain ⟨v, hv⟩ := h.set
  obtain ⟨u, hu⟩ := h.ref
  obtain ⟨u', hu', ho⟩ := hl u hu
  obtain ⟨a1, a2, a3, a4⟩ := SetIs.apart hv hu (by decide) (by decide) (by decide) (by decide)
  exact ⟨ho.below h.below h.below.size hu.lo (fun k hk => (LRow.lt hu.row k hk).2.1), ⟨v, SetIs.far (T' := 0) (E' := 0) (B' := 0) (l' := []) hv ho a1 a2 a3 a4⟩, ⟨u', hu'⟩⟩
theorem SetIs.val {T E B g : Nat} {v v' : Value} (h : SetIs T E W B g v l) (h' : SetIs T E W B g v' l') : v = v' := by
  have := h.blk
  rw [h'.blk] at this
  injection this with this
  injection this with this
  injection this with this
  injection this with this
  exact this.symm
theorem PlayIs.sput (h : PlayIs w W g r l m) (a b c : Int) (h1 : 1 ≤ b) (h2 : b ≤ 100) (h3 : l.length < 10000) : Calls Try.prog 11 #[.pointer (some ⟨g, 0, none⟩), .agg #[.int .i64 a, .int .i64 b, .int .i64 c]] W fun e w' => e = .returned (.int .i64 0) ∧ PlayIs w w' g r (l ++ [⟨a, b, c⟩]) m ∧ KeepS W w' := by
  obtain ⟨v, hv⟩ := h.set
  refine (put_ok ⟨a, b, c⟩ g w.heap.size v l W hv h.below.size h1 h2 h3).mono ?_
  rintro e w' ⟨rfl, v', h4, h5, _⟩
  exact ⟨rfl, h.left (fun v2 hv2 => by rw [← hv.val hv2]; exact ⟨v', h4, h5⟩), fun b cs T hb h6 h7 => keep_only hv h5 hb h6 h7⟩
theorem PlayIs.sputNo (h : PlayIs w W g r l m) (a b c : Int) (hn : b < 1 ∨ 100 < b) : Calls Try.prog 11 #[.pointer (some ⟨g, 0, none⟩), .agg #[.int .i64 a, .int .i64 b, .int .i64 c]] W fun e w' => e = .returned (.int .i64 1) ∧ PlayIs w w' g r l m ∧ KeepS W w' := by
  by_cases h1 : b < 1
  · refine (put_low ⟨a, b, c⟩ g W h1).mono ?_
    rintro e w' ⟨rfl, hb⟩
    exact ⟨rfl, h.step hb, KeepS.below hb⟩
  · refine (put_high ⟨a, b, c⟩ g W (show 1 ≤ b by omega) (show 100 < b by omega)).mono ?_
    rintro e w' ⟨rfl, hb⟩
    exact ⟨rfl, h.step hb, KeepS.below hb⟩
theorem PlayIs.rput (h : PlayIs w W g r l m) (a b c : Int) (h1 : 1 ≤ b) (h2 : b ≤ 100) (h3 : m.length < 10000) : Calls Try.prog 12 #[.pointer (some ⟨r, 0, none⟩), .agg #[.int .i64 a, .int .i64 b, .int .i64 c]] W fun e w' => e = .returned (.int .i64 0) ∧ PlayIs w w' g r l (m ++ [⟨a, b, c⟩]) ∧ KeepR W w' := by
  obtain ⟨v, hv⟩ := h.ref
  refine (rput_ok ⟨a, b, c⟩ r w.heap.size v m W hv h.below.size h1 h2 h3).mono ?_
  rintro e w' ⟨rfl, v', h4, h5, _⟩
  exact ⟨rfl, h.right (fun v2 hv2 => by rw [← hv.val hv2]; exact ⟨v', h4, h5⟩), fun b cs T hb h6 h7 => keep_only hv h5 hb h6 h7⟩
theorem PlayIs.rputNo (h : PlayIs w W g r l m) (a b c : Int) (hn : b < 1 ∨ 100 < b) : Calls Try.prog 12 #[.pointer (some ⟨r, 0, none⟩), .agg #[.int .i64 a, .int .i64 b, .int .i64 c]] W fun e w' => e = .returned (.int .i64 1) ∧ PlayIs w w' g r l m ∧ KeepR W w' := by
  refine (rput_no ⟨a, b, c⟩ r W hn).mono ?_
  rintro e w' ⟨rfl, hb⟩
  exact ⟨rfl, h.step hb, KeepR.below hb⟩
theorem PlayIs.stake (h : PlayIs w W g r l m) (hl : l.length ≤ 10000) (a p : Int) (h0 : 0 < (places l (mxp l)).length) (ha : a < mxp l) :
    Calls Try.prog 14 #[.pointer (some ⟨g, 0, none⟩), .int .i64 a, .int .i64 p] W fun e w' => e = .returned (.tuple #[.agg #[.int .i64 (l.getD (pickPlace l p) z30).f0, .int .i64 (l.getD (pickPlace l p) z30).f1, .int .i64 (l.getD (pickPlace l p) z30).f2], .bool true]) ∧ PlayIs w w' g r (l.eraseIdx (pickPlace l p)) m ∧ KeepS W w' := by
  obtain ⟨v, hv⟩ := h.set
  refine (takeYes g _ v l a p W hv h.below.size hl h0 ha).mono ?_
  rintro e w' ⟨he, v', h4, h5, _⟩
  exact ⟨he, h.left (fun v2 hv2 => by rw [← hv.val hv2]; exact ⟨v', h4, h5⟩), fun b cs T hb h6 h7 => keep_only hv h5 hb h6 h7⟩
theorem PlayIs.stakeNo (h : PlayIs w W g r l m) (hl : l.length ≤ 10000) (a p : Int) (hn : (places l (mxp l)).length = 0 ∨ mxp l ≤ a) :
    Calls Try.prog 14 #[.pointer (some ⟨g, 0, none⟩), .int .i64 a, .int .i64 p] W fun e w' => e = .returned (.tuple #[.agg #[.int .i64 0, .int .i64 0, .int .i64 0], .bool false]) ∧ PlayIs w w' g r l m ∧ KeepS W w' := by
  obtain ⟨v, hv⟩ := h.set
  refine (takeNo g _ v l a p W hv hl hn).mono ?_
  rintro e w' ⟨rfl, hb⟩
  exact ⟨rfl, h.step hb, KeepS.below hb⟩
theorem PlayIs.rtake (h : PlayIs w W g r l m) (hl : m.length ≤ 10000) (a p : Int) (h0 : 0 < (places m (mxp m)).length) (hm : 0 < mxp m) (ha : a < mxp m) :
    Calls Try.prog 15 #[.pointer (some ⟨r, 0, none⟩), .int .i64 a, .int .i64 p] W fun e w' => e = .returned (.tuple #[.agg #[.int .i64 (m.getD (pickPlace m p) z30).f0, .int .i64 (m.getD (pickPlace m p) z30).f1, .int .i64 (m.getD (pickPlace m p) z30).f2], .bool true]) ∧ PlayIs w w' g r l (m.eraseIdx (pickPlace m p)) ∧ KeepR W w' := by
  obtain ⟨v, hv⟩ := h.ref
  refine (rtakeYes r _ v m a p W hv h.below.size hl h0 hm ha).mono ?_
  rintro e w' ⟨he, v', h4, h5⟩
  exact ⟨he, h.right (fun v2 hv2 => by rw [← hv.val hv2]; exact ⟨v', h4, h5⟩), fun b cs T hb h6 h7 => keep_only hv h5 hb h6 h7⟩
theorem PlayIs.rtakeNo (h : PlayIs w W g r l m) (hl : m.length ≤ 10000) (a p : Int) (hn : mxp m = 0 ∨ mxp m ≤ a) :
    Calls Try.prog 15 #[.pointer (some ⟨r, 0, none⟩), .int .i64 a, .int .i64 p] W fun e w' => e = .returned (.tuple #[.agg #[.int .i64 0, .int .i64 0, .int .i64 0], .bool false]) ∧ PlayIs w w' g r l m ∧ KeepR W w' := by
  obtain ⟨v, hv⟩ := h.ref
  refine (Rd.rtakeNo r _ v m a p W hv hl hn).mono ?_
  rintro e w' ⟨rfl, hb⟩
  exact ⟨rfl, h.step hb, KeepR.below hb⟩
theorem PlayIs.sbest (h : PlayIs w W g r l m) (hl : l.length ≤ 10000) : Calls Try.prog 20 #[.pointer (some ⟨g, 0, none⟩)] W fun e w' => e = .returned (.int .i64 (mxp l)) ∧ PlayIs w w' g r l m := by
  obtain ⟨v, hv⟩ := h.set
  refine (bestOf g _ v l W hv hl).mono ?_
  rintro e w' ⟨rfl, hb⟩
  exact ⟨rfl, h.step hb⟩
theorem PlayIs.rbest (h : PlayIs w W g r l m) (hl : m.length ≤ 10000) : Calls Try.prog 21 #[.pointer (some ⟨r, 0, none⟩)] W fun e w' => e = .returned (.int .i64 (mxp m)) ∧ PlayIs w w' g r l m := by
  obtain ⟨v, hv⟩ := h.ref
  refine (rbest_any r _ v m W hv hl).mono ?_
  rintro e w' ⟨rfl, rfl⟩
  exact ⟨rfl, h⟩
/-- all, laid for the document's answer -/
theorem PlayIs.all (h : PlayIs w W g r l m) (hl : l.length ≤ 10000) : Calls Try.prog 19 #[.pointer (some ⟨g, 0, none⟩)] W fun e w' => ∃ A c, l.length ≤ c ∧ e = .returned (.slice A l.length c) ∧ PlayIs w w' g r l m ∧ Kd.C k30 w' A l.length l ∧ Below W.heap.size W w' := by
  obtain ⟨v, hv⟩ := h.set
  refine (allOf g _ v l W hv hl).mono ?_
  rintro e w' ⟨va, rfl, hr, hb⟩
  obtain ⟨A, c, rfl, hc⟩ := LRow.slice hr
  exact ⟨A, c, hc, rfl, h.step hb, row_all hr (by omega), hb⟩
/-- the document's row -/
theorem PlayIs.refRow (h : PlayIs w W g r l m) (hl : m.length ≤ 10000) : ∃ A c, W.cell? ⟨r, 0, none⟩ = some (.slice A m.length c) ∧ PlIs W A c m := by
  obtain ⟨v, hv⟩ := h.ref
  obtain ⟨A, c, rfl, hc⟩ := hv.slice
  refine ⟨A, c, hv.cell, hc, by rw [List.length_map], by omega, fun h0 => ?_⟩
  obtain ⟨b, rfl, _⟩ := hv.elem 0 (by simpa using h0)
  refine ⟨_, rfl, fun j p hj => ⟨[.int .i64 p.f0, .int .i64 p.f1, .int .i64 p.f2], rfl, k36_mk W p, fun i u hu => ?_⟩⟩
  rw [List.getElem?_map, Option.map_eq_some_iff] at hj
  obtain ⟨q, hq, rfl⟩ := hj
  have hi : i < 3 := (List.getElem?_eq_some_iff.1 hu).1
  have hc := LRow.cell hv.row (j * 3 + i) u (by rw [flat_get m j i hi, hq]; exact hu)
  rw [add_plain] at hc
  have e3 : k36.sz = 3 := rfl
  rw [e3, add_plain]
  exact hc
/-- a copy takes the set's place; the old one is put into once more -/
theorem PlayIs.copy (h : PlayIs w W g r l m) (hl : l.length < 10000) : Calls Try.prog 16 #[.pointer (some ⟨g, 0, none⟩)] W fun e w' => ∃ g', e = .returned (.pointer (some ⟨g', 0, none⟩)) ∧
    ∀ W2, Below w'.heap.size w' W2 → Calls Try.prog 11 #[.pointer (some ⟨g, 0, none⟩), .agg #[.int .i64 0, .int .i64 1, .int .i64 0]] W2 fun e w'' => e = .returned (.int .i64 0) ∧ PlayIs w w'' g' r l m := by
  obtain ⟨v, hv⟩ := h.set
  obtain ⟨u, hu⟩ := h.ref
  refine (copyOf g _ v l W hv (by omega)).mono ?_
  rintro e w' ⟨g', va, rfl, hs, hb⟩
  refine ⟨g', rfl, fun W2 hb2 => ?_⟩
  have hb3 := hb.trans (hb2.mono hb.size)
  have hv2 := hv.step hb3
  have hs2 := hs.step hb2
  have hu2 := hu.step hb3
  refine (put_ok ⟨0, 1, 0⟩ g w.heap.size v l W2 hv2 (Nat.le_trans h.below.size hb3.size) (by decide) (by decide) hl).mono ?_
  rintro e w'' ⟨rfl, v', h4, h5, _⟩
  have hgl := hv.lt
  have hlo := hs.lo
  have hvl : ∀ k, v.ownBlock = some k → k < W.heap.size := fun k hk => (LRow.lt hv.row k hk).1
  have hal : ∀ k, va.ownBlock = some k → W.heap.size ≤ k := fun k hk => (LRow.lt hs.row k hk).2.1
  obtain ⟨a1, a2, a3, a4⟩ := SetIs.apart hu2 hv2 (by decide) (by decide) (by decide) (by decide)
  have hs3 := SetIs.far (T' := 0) (E' := 0) (B' := 0) (l' := []) hs2 h5 (by omega) (fun e => by have := hvl g' e.symm; omega) (fun e => by have := hal g e; omega) (by
    cases hva : va.ownBlock with
    | none => exact .inl rfl
    | some q => exact .inr (fun e => by have := hal q hva; have := hvl q e.symm; omega))
  exact ⟨rfl, h5.below (h.below.trans (hb3.mono h.below.size)) (Nat.le_trans h.below.size hb3.size) hv2.lo (fun k hk => (LRow.lt hv2.row k hk).2.1), ⟨va, Nat.le_trans h.below.size hs3.lo, hs3.blk, LRow.low hs3.row h.below.size⟩, ⟨u, SetIs.far (T' := 0) (E' := 0) (B' := 0) (l' := []) hu2 h5 a1 a2 a3 a4⟩⟩
end
end Go.Proofs.Ytojdbpeaclnmkaa.Rd
