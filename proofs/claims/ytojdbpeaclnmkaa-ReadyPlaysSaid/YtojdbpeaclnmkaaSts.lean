/- Several sets and rows of jobs at once, none sharing a block with another one; the set's calls on one of them. -/
import Derived.Test.YtojdbpeaclnmkaaTake
import Derived.Test.YtojdbpeaclnmkaaPrint3
import Derived.Test.YtojdbpeaclnmkaaPrint4
import Derived.Test.YtojdbpeaclnmkaaPrint5
set_option linter.unusedVariables false
set_option linter.unusedSimpArgs false
namespace Go.Proofs.Ytojdbpeaclnmkaa.Rd
open Go Go.RowKit Go.Proofs.YtojdbpeaclnmkaaW.PrintWords Go.Proofs.YtojdbpeaclnmkaaW.PrintLast Go.Proofs.YtojdbpeaclnmkaaW.PrintMore Go.Proofs.Ytojdbpeaclnmkaa Go.Proofs.Ytojdbpeaclnmkaa.Print
inductive Key where
  | set (g : Nat)
  | row (v : Value)
def EntIs (w : World) (B : Nat) (l : List S30) (v : Value) : Key → Prop
  | .set g => SetIs 58 30 w B g v l
  | .row u => v = u ∧ RowIs w B u l
structure Ent where
  key : Key
  val : Value
  jobs : List S30
def Ent.is (w : World) (B : Nat) (x : Ent) : Prop := EntIs w B x.jobs x.val x.key
def Ent.apart (x y : Ent) : Prop := (∀ g, x.key = .set g → y.key ≠ .set g) ∧ ∀ k, x.val.ownBlock = some k → y.val.ownBlock ≠ some k
theorem Ent.apart_symm {x y : Ent} (h : x.apart y) : y.apart x := ⟨fun g hg hx => h.1 g hx hg, fun k hk hx => h.2 k hx hk⟩
theorem Ent.is.row {w : World} {B : Nat} {x : Ent} (h : x.is w B) : RowIs w B x.val x.jobs := by
  unfold Ent.is at h
  cases hk : x.key with
  | set g => rw [hk] at h; exact SetIs.row h
  | row u => rw [hk] at h; obtain ⟨h1, h2⟩ := h; rw [h1]; exact h2
theorem Ent.is.move {w w1 : World} {B : Nat} {x : Ent} (h : x.is w B) (h1 : ∀ g, x.key = .set g → w1.heap[g]? = w.heap[g]?) (h2 : ∀ k, x.val.ownBlock = some k → w1.heap[k]? = w.heap[k]?) : x.is w1 B := by
  unfold Ent.is at h ⊢
  cases hk : x.key with
  | set g => rw [hk] at h; exact SetIs.move h (h1 g hk) h2
  | row u => rw [hk] at h; obtain ⟨h3, h4⟩ := h; exact ⟨h3, LRow.move h4 (by rw [← h3]; exact h2)⟩
theorem Ent.is.step {w w1 : World} {B : Nat} {x : Ent} (h : x.is w B) (hb : Below w.heap.size w w1) : x.is w1 B :=
  h.move (fun g hg => by
    unfold Ent.is at h
    rw [hg] at h
    exact hb.block g (SetIs.lt h)) (fun k hk => hb.block k (LRow.lt h.row k hk).1)
def Sets (w0 W : World) (L : List Ent) : Prop := Below w0.heap.size w0 W ∧ (∀ x ∈ L, x.is W w0.heap.size) ∧ L.Pairwise Ent.apart
def Sts (w0 W : World) (L : List (Key × List S30)) : Prop := ∃ L' : List Ent, L'.map (fun x => (x.key, x.jobs)) = L ∧ Sets w0 W L'
theorem Sts.empty {w0 W : World} (h : Below w0.heap.size w0 W) : Sts w0 W [] := ⟨[], rfl, h, fun x hx => by (cases hx), List.Pairwise.nil⟩
theorem Sts.below {w0 W : World} {L : List (Key × List S30)} (h : Sts w0 W L) : Below w0.heap.size w0 W := by
  obtain ⟨_, _, h, _⟩ := h
  exact h
theorem Sts.size {w0 W : World} {L : List (Key × List S30)} (h : Sts w0 W L) : w0.heap.size ≤ W.heap.size := h.below.size
theorem Sts.step {w0 W W1 : World} {L : List (Key × List S30)} (h : Sts w0 W L) (hb : Below W.heap.size W W1) : Sts w0 W1 L := by
  obtain ⟨L', rfl, h1, h2, h3⟩ := h
  exact ⟨L', rfl, h1.trans (hb.mono h1.size), fun x hx => (h2 x hx).step hb, h3⟩
/-- what is not needed any more falls away -/
theorem Sts.sub {w0 W : World} {L M : List (Key × List S30)} (h : Sts w0 W L) (hs : M.Sublist L) : Sts w0 W M := by
  obtain ⟨L', rfl, h1, h2, h3⟩ := h
  obtain ⟨M', hs', rfl⟩ := List.sublist_map_iff.1 hs
  exact ⟨M', rfl, h1, fun x hx => h2 x (hs'.subset hx), h3.sublist hs'⟩
/-- what was made just now comes ahead -/
theorem Sts.add {w0 W W1 : World} {L : List (Key × List S30)} (h : Sts w0 W L) (hb : Below W.heap.size W W1) {x : Ent} (hx : x.is W1 W.heap.size) : Sts w0 W1 ((x.key, x.jobs) :: L) := by
  obtain ⟨L', rfl, h1, h2, h3⟩ := h
  have hlow : x.is W1 w0.heap.size := by
    have lr : ∀ {v : Value} {l : List S30}, RowIs W1 W.heap.size v l → RowIs W1 w0.heap.size v l := by
      intro v l hr
      refine ⟨hr.1, ?_⟩
      rcases hr.2 with h4 | ⟨g, cap, cur, h4, h5, h6⟩
      · exact .inl h4
      · exact .inr ⟨g, cap, cur, h4, Nat.le_trans h1.size h5, h6⟩
    unfold Ent.is at hx ⊢
    cases hk : x.key with
    | set g => rw [hk] at hx; exact ⟨Nat.le_trans h1.size (SetIs.lo hx), SetIs.blk hx, lr (SetIs.row hx)⟩
    | row u => rw [hk] at hx; exact ⟨hx.1, lr hx.2⟩
  refine ⟨x :: L', rfl, h1.trans (hb.mono h1.size), fun y hy => ?_, List.Pairwise.cons (fun y hy => ?_) h3⟩
  · rcases List.mem_cons.1 hy with rfl | hy
    · exact hlow
    · exact (h2 y hy).step hb
  · refine ⟨fun g hg hy' => ?_, fun k hk hy' => ?_⟩
    · have h4 := h2 y hy
      unfold Ent.is at hx h4
      rw [hg] at hx
      rw [hy'] at h4
      have := SetIs.lo hx
      have := SetIs.lt h4
      omega
    · have := (LRow.lt (h2 y hy).row k hy').1
      have := (LRow.lt hx.row k hk).2.1
      omega
/-- one of them was changed -/
theorem Sts.left {w0 W W1 : World} {L1 L2 : List (Key × List S30)} {g : Nat} {l l' : List S30} (h : Sts w0 W (L1 ++ (.set g, l) :: L2)) (hL : ∀ v, SetIs 58 30 W w0.heap.size g v l → Left 58 30 W W1 w0.heap.size g v l') : Sts w0 W1 (L1 ++ (.set g, l') :: L2) := by
  obtain ⟨L', hm, h1, h2, h3⟩ := h
  obtain ⟨M1, M', rfl, rfl, hm2⟩ := List.map_eq_append_iff.1 hm
  obtain ⟨x, M2, rfl, hx, rfl⟩ := List.map_eq_cons_iff.1 hm2
  simp only [Prod.mk.injEq] at hx
  obtain ⟨hk, rfl⟩ := hx
  have hxm : x ∈ M1 ++ x :: M2 := by simp
  have hxi := h2 x hxm
  have hS : SetIs 58 30 W w0.heap.size g x.val x.jobs := by
    unfold Ent.is at hxi
    rw [hk] at hxi
    exact hxi
  obtain ⟨v', hs', ho, hat⟩ := hL _ hS
  have apart : ∀ y, y ∈ M1 ∨ y ∈ M2 → x.apart y := by
    intro y hy
    rw [List.pairwise_append, List.pairwise_cons] at h3
    rcases hy with hy | hy
    · exact Ent.apart_symm (h3.2.2 y hy x (by simp))
    · exact h3.2.1.1 y hy
  have far : ∀ y, y ∈ M1 ∨ y ∈ M2 → y.is W1 w0.heap.size ∧ (⟨.set g, v', l'⟩ : Ent).apart y := by
    intro y hy
    have ha := apart y hy
    have hym : y ∈ M1 ++ x :: M2 := by rcases hy with hy | hy <;> simp [hy]
    have hyi := h2 y hym
    have ty : ∀ k, y.val.ownBlock = some k → k ≠ g := by
      intro k hkk e
      obtain ⟨_, _, cur, hc⟩ := LRow.lt hyi.row k hkk
      rw [e, hS.blk] at hc
      injection hc with hc
      injection hc with _ hc
      exact absurd hc (by decide)
    refine ⟨hyi.move (fun g' hg' => ?_) (fun k hkk => ?_), fun g' hg' hy' => ?_, fun k hkk hy' => ?_⟩
    · have h4 := hyi
      unfold Ent.is at h4
      rw [hg'] at h4
      refine ho.block g' (SetIs.lt h4) (fun e => ha.1 g hk (by rw [hg', e])) (fun e => ?_)
      obtain ⟨_, _, cur, hc⟩ := LRow.lt hS.row g' e.symm
      rw [SetIs.blk h4] at hc
      injection hc with hc
      injection hc with _ hc
      exact absurd hc (by decide)
    · exact ho.block k (LRow.lt hyi.row k hkk).1 (ty k hkk) (fun e => ha.2 k e.symm hkk)
    · injection hg' with hg'
      rw [← hg'] at hy'
      exact ha.1 g hk hy'
    · rcases hat with h4 | ⟨b, h4, h5⟩
      · exact ha.2 k (h4 ▸ hkk) hy'
      · have := (LRow.lt hyi.row k hy').1
        have hkk' : v'.ownBlock = some k := hkk
        rw [h4] at hkk'
        injection hkk' with e
        omega
  refine ⟨M1 ++ ⟨.set g, v', l'⟩ :: M2, by simp, ho.below h1 h1.size hS.lo (fun k hkk => (LRow.lt hS.row k hkk).2.1), fun y hy => ?_, ?_⟩
  · rcases List.mem_append.1 hy with hy | hy
    · exact (far y (.inl hy)).1
    · rcases List.mem_cons.1 hy with rfl | hy
      · exact hs'
      · exact (far y (.inr hy)).1
  · rw [List.pairwise_append, List.pairwise_cons] at h3 ⊢
    refine ⟨h3.1, ⟨fun y hy => (far y (.inr hy)).2, h3.2.1.2⟩, fun a ha b hb => ?_⟩
    rcases List.mem_cons.1 hb with rfl | hb
    · exact Ent.apart_symm (far a (.inl ha)).2
    · exact h3.2.2 a ha b (by simp [hb])
theorem Sts.get {w0 W : World} {L1 L2 : List (Key × List S30)} {g : Nat} {l : List S30} (h : Sts w0 W (L1 ++ (.set g, l) :: L2)) : ∃ v, SetIs 58 30 W w0.heap.size g v l := by
  obtain ⟨L', hm, h1, h2, h3⟩ := h
  obtain ⟨M1, M', rfl, rfl, hm2⟩ := List.map_eq_append_iff.1 hm
  obtain ⟨x, M2, rfl, hx, rfl⟩ := List.map_eq_cons_iff.1 hm2
  simp only [Prod.mk.injEq] at hx
  obtain ⟨hk, rfl⟩ := hx
  have hxi := h2 x (by simp)
  unfold Ent.is at hxi
  rw [hk] at hxi
  exact ⟨_, hxi⟩
theorem Sts.getRow {w0 W : World} {L1 L2 : List (Key × List S30)} {u : Value} {l : List S30} (h : Sts w0 W (L1 ++ (.row u, l) :: L2)) : RowIs W w0.heap.size u l := by
  obtain ⟨L', hm, h1, h2, h3⟩ := h
  obtain ⟨M1, M', rfl, rfl, hm2⟩ := List.map_eq_append_iff.1 hm
  obtain ⟨x, M2, rfl, hx, rfl⟩ := List.map_eq_cons_iff.1 hm2
  simp only [Prod.mk.injEq] at hx
  obtain ⟨hk, rfl⟩ := hx
  have hxi := h2 x (by simp)
  unfold Ent.is at hxi
  rw [hk] at hxi
  exact hxi.2
/-- a variable that holds a job is a row of one -/
theorem box_row (W : World) (B : Nat) (hB : B ≤ W.heap.size) (a b c : Int) : RowIs (W.alloc (.cells #[.int .i64 a, .int .i64 b, .int .i64 c] 30)) B (.slice (some ⟨W.heap.size, 0, none⟩) 1 1) [⟨a, b, c⟩] :=
  ⟨rfl, .inr ⟨_, 1, _, rfl, hB, heap_alloc_new W _, Nat.le_refl _, by decide, Nat.le_refl 3, rfl⟩⟩
abbrev boxAt (b : Nat) : Key := .row (.slice (some ⟨b, 0, none⟩) 1 1)
theorem Sts.addBox {w0 W : World} {L : List (Key × List S30)} (h : Sts w0 W L) (a b c : Int) : Sts w0 (W.alloc (.cells #[.int .i64 a, .int .i64 b, .int .i64 c] 30)) ((boxAt W.heap.size, [⟨a, b, c⟩]) :: L) :=
  h.add ((Below.refl _ _).alloc (Nat.le_refl _) _) (x := ⟨boxAt W.heap.size, .slice (some ⟨W.heap.size, 0, none⟩) 1 1, [⟨a, b, c⟩]⟩) ⟨rfl, box_row W _ (Nat.le_refl _) a b c⟩
theorem Sts.box {w0 W : World} {L1 L2 : List (Key × List S30)} {b : Nat} {j : S30} (h : Sts w0 W (L1 ++ (boxAt b, [j]) :: L2)) : W.cell? ⟨b, 0, none⟩ = some (.int .i64 j.f0) ∧ W.cell? ⟨b, 1, none⟩ = some (.int .i64 j.f1) ∧ W.cell? ⟨b, 2, none⟩ = some (.int .i64 j.f2) := by
  have hr := h.getRow
  have e : ∀ i, (⟨b, 0, none⟩ : Addr).add i = ⟨b, i, none⟩ := by intro i; unfold Addr.add; split <;> simp_all
  have c0 := LRow.cell hr 0 (.int .i64 j.f0) rfl
  have c1 := LRow.cell hr 1 (.int .i64 j.f1) rfl
  have c2 := LRow.cell hr 2 (.int .i64 j.f2) rfl
  rw [e] at c0 c1 c2
  exact ⟨c0, c1, c2⟩
/-! ### The calls on one of several -/
section
variable {w0 W : World} {L L1 L2 : List (Key × List S30)} {g : Nat} {l : List S30}
theorem newS (h : Sts w0 W L) : Calls Try.prog 10 #[] W fun e w' => ∃ g, e = .returned (.pointer (some ⟨g, 0, none⟩)) ∧ Sts w0 w' ((.set g, []) :: L) := by
  refine (new_any W).mono ?_
  rintro e w' ⟨rfl, rfl⟩
  exact ⟨_, rfl, h.add ((Below.refl _ _).alloc (Nat.le_refl _) _) (x := ⟨.set W.heap.size, .slice none 0 0, []⟩) (new_set W W.heap.size (Nat.le_refl _))⟩
theorem putS (h : Sts w0 W (L1 ++ (.set g, l) :: L2)) (a b c : Int) (h1 : 1 ≤ b) (h2 : b ≤ 100) (h3 : l.length < 10000) :
    Calls Try.prog 11 #[.pointer (some ⟨g, 0, none⟩), .agg #[.int .i64 a, .int .i64 b, .int .i64 c]] W fun e w' => e = .returned (.int .i64 0) ∧ Sts w0 w' (L1 ++ (.set g, l ++ [⟨a, b, c⟩]) :: L2) := by
  obtain ⟨v, hv⟩ := h.get
  refine (put_ok ⟨a, b, c⟩ g w0.heap.size v l W hv h.size h1 h2 h3).mono ?_
  rintro e w' ⟨rfl, hl⟩
  refine ⟨rfl, h.left (fun v' hv' => ?_)⟩
  have e1 : v' = v := by
    have h4 := hv'.blk
    rw [hv.blk] at h4
    injection h4 with h4
    injection h4 with h4
    injection h4 with h4
    injection h4 with h4
    exact h4.symm
  rw [e1]
  exact hl
theorem putNo (h : Sts w0 W L) (a b c : Int) (hn : b < 1 ∨ 100 < b) (g : Nat) :
    Calls Try.prog 11 #[.pointer (some ⟨g, 0, none⟩), .agg #[.int .i64 a, .int .i64 b, .int .i64 c]] W fun e w' => e = .returned (.int .i64 1) ∧ Sts w0 w' L := by
  by_cases h1 : b < 1
  · refine (put_low ⟨a, b, c⟩ g W h1).mono ?_
    rintro e w' ⟨rfl, hb⟩
    exact ⟨rfl, h.step hb⟩
  · refine (put_high ⟨a, b, c⟩ g W (show 1 ≤ b by omega) (show 100 < b by omega)).mono ?_
    rintro e w' ⟨rfl, hb⟩
    exact ⟨rfl, h.step hb⟩
theorem bestS (h : Sts w0 W (L1 ++ (.set g, l) :: L2)) (hl : l.length ≤ 10000) : Calls Try.prog 20 #[.pointer (some ⟨g, 0, none⟩)] W fun e w' => e = .returned (.int .i64 (mxp l)) ∧ Sts w0 w' (L1 ++ (.set g, l) :: L2) := by
  obtain ⟨v, hv⟩ := h.get
  refine (bestOf g _ v l W hv hl).mono ?_
  rintro e w' ⟨rfl, hb⟩
  exact ⟨rfl, h.step hb⟩
theorem takeNoS (h : Sts w0 W (L1 ++ (.set g, l) :: L2)) (hl : l.length ≤ 10000) (a p : Int) (hn : (places l (mxp l)).length = 0 ∨ mxp l ≤ a) :
    Calls Try.prog 14 #[.pointer (some ⟨g, 0, none⟩), .int .i64 a, .int .i64 p] W fun e w' => e = .returned (.tuple #[.agg #[.int .i64 0, .int .i64 0, .int .i64 0], .bool false]) ∧ Sts w0 w' (L1 ++ (.set g, l) :: L2) := by
  obtain ⟨v, hv⟩ := h.get
  refine (takeNo g _ v l a p W hv hl hn).mono ?_
  rintro e w' ⟨rfl, hb⟩
  exact ⟨rfl, h.step hb⟩
theorem takeS (h : Sts w0 W (L1 ++ (.set g, l) :: L2)) (hl : l.length ≤ 10000) (a p : Int) (h0 : 0 < (places l (mxp l)).length) (ha : a < mxp l) :
    Calls Try.prog 14 #[.pointer (some ⟨g, 0, none⟩), .int .i64 a, .int .i64 p] W fun e w' => e = .returned (.tuple #[.agg #[.int .i64 (l.getD (pickPlace l p) z30).f0, .int .i64 (l.getD (pickPlace l p) z30).f1, .int .i64 (l.getD (pickPlace l p) z30).f2], .bool true]) ∧ Sts w0 w' (L1 ++ (.set g, l.eraseIdx (pickPlace l p)) :: L2) := by
  obtain ⟨v, hv⟩ := h.get
  refine (takeYes g _ v l a p W hv h.size hl h0 ha).mono ?_
  rintro e w' ⟨he, hl⟩
  refine ⟨he, h.left (fun v' hv' => ?_)⟩
  have e1 : v' = v := by
    have h4 := hv'.blk
    rw [hv.blk] at h4
    injection h4 with h4
    injection h4 with h4
    injection h4 with h4
    injection h4 with h4
    exact h4.symm
  rw [e1]
  exact hl
theorem allS (h : Sts w0 W (L1 ++ (.set g, l) :: L2)) (hl : l.length ≤ 10000) : Calls Try.prog 19 #[.pointer (some ⟨g, 0, none⟩)] W fun e w' => ∃ A c, l.length ≤ c ∧ e = .returned (.slice A l.length c) ∧ Sts w0 w' ((.row (.slice A l.length c), l) :: (L1 ++ (.set g, l) :: L2)) := by
  obtain ⟨v, hv⟩ := h.get
  refine (allOf g _ v l W hv hl).mono ?_
  rintro e w' ⟨va, rfl, hr, hb⟩
  obtain ⟨A, c, rfl, hc⟩ := LRow.slice hr
  exact ⟨A, c, hc, rfl, h.add hb (x := ⟨.row (.slice A l.length c), .slice A l.length c, l⟩) ⟨rfl, hr⟩⟩
theorem copyS (h : Sts w0 W (L1 ++ (.set g, l) :: L2)) (hl : l.length ≤ 10000) : Calls Try.prog 16 #[.pointer (some ⟨g, 0, none⟩)] W fun e w' => ∃ g', e = .returned (.pointer (some ⟨g', 0, none⟩)) ∧ Sts w0 w' ((.set g', l) :: (L1 ++ (.set g, l) :: L2)) := by
  obtain ⟨v, hv⟩ := h.get
  refine (copyOf g _ v l W hv hl).mono ?_
  rintro e w' ⟨g', va, rfl, hs, hb⟩
  exact ⟨g', rfl, h.add hb (x := ⟨.set g', va, l⟩) hs⟩
end
end Go.Proofs.Ytojdbpeaclnmkaa.Rd
