/- Several things in memory at once, none sharing a block with another one: each keeps as long as its own blocks do. -/
import Derived.Test.YtdpfbmhdbnkdaaaLoose
import Derived.Lib.Hide
set_option linter.unusedVariables false
namespace Go.Proofs.Ytdpfbmhdbnkdaaa.Tm
open Go Go.RowKit Go.Proofs.Ytdpfbmhdbnkdaaa
/-- what holds of the world through the blocks S alone -/
structure Asn where
  P : List Nat → World → Prop
  stable : ∀ S W W', P S W → (∀ k ∈ S, W'.heap[k]? = W.heap[k]?) → P S W'
  live : ∀ S W, P S W → ∀ k ∈ S, k < W.heap.size
/-- every block but those of S is as it was; new ones may be there -/
structure Keeps (S : List Nat) (W W' : World) : Prop where
  os : W'.os = W.os
  tape : W'.tape = W.tape
  output : W'.output = W.output
  size : W.heap.size ≤ W'.heap.size
  block : ∀ k, k < W.heap.size → k ∉ S → W'.heap[k]? = W.heap[k]?
theorem Keeps.refl (S : List Nat) (W : World) : Keeps S W W := ⟨rfl, rfl, rfl, Nat.le_refl _, fun _ _ _ => rfl⟩
theorem Keeps.trans {S : List Nat} {a b c : World} (h : Keeps S a b) (k : Keeps S b c) : Keeps S a c :=
  ⟨k.os.trans h.os, k.tape.trans h.tape, k.output.trans h.output, Nat.le_trans h.size k.size, fun i hi hn => (k.block i (Nat.lt_of_lt_of_le hi h.size) hn).trans (h.block i hi hn)⟩
/-- the second step may turn blocks that are new, too -/
theorem Keeps.trans' {S S' : List Nat} {a b c : World} (h : Keeps S a b) (k : Keeps S' b c) (hs : ∀ x ∈ S', x ∈ S ∨ a.heap.size ≤ x) : Keeps S a c :=
  ⟨k.os.trans h.os, k.tape.trans h.tape, k.output.trans h.output, Nat.le_trans h.size k.size, fun i hi hn => (k.block i (Nat.lt_of_lt_of_le hi h.size) (fun hm => by
    rcases hs i hm with h1 | h1
    · exact hn h1
    · omega)).trans (h.block i hi hn)⟩
theorem Keeps.mono {S S' : List Nat} {a b : World} (h : Keeps S a b) (hs : ∀ x ∈ S, x ∈ S' ∨ a.heap.size ≤ x) : Keeps S' a b :=
  ⟨h.os, h.tape, h.output, h.size, fun k hk hn => h.block k hk (fun hm => by
    rcases hs k hm with h1 | h1
    · exact hn h1
    · omega)⟩
theorem Keeps.of_below {W W' : World} (h : Below W.heap.size W W') (S : List Nat) : Keeps S W W' := ⟨h.os, h.tape, h.output, h.size, fun k hk _ => h.block k hk⟩
theorem Keeps.below {W W' : World} (h : Keeps [] W W') : Below W.heap.size W W' := ⟨h.os, h.tape, h.output, h.size, fun k hk => h.block k hk (by simp)⟩
theorem Keeps.of_grown {W W' : World} {row : Option Nat} (h : W.grownBy W' row) (S : List Nat) (hs : ∀ k, row = some k → k ∈ S ∨ W.heap.size ≤ k) : Keeps S W W' :=
  ⟨h.os, h.tape, h.output, h.size, fun k hk hn => h.block k hk (fun e => by
    rcases hs k e.symm with h1 | h1
    · exact hn h1
    · omega)⟩
theorem Keeps.setCell {W W' : World} {S : List Nat} (h : Keeps S W W') (b o : Nat) (v : Value) (hb : b ∈ S ∨ W.heap.size ≤ b) : Keeps S W (W'.setCell ⟨b, o, none⟩ v) :=
  ⟨h.os, h.tape, h.output, by simpa [World.setCell] using h.size, fun k hk hn => (Below.heap_setCell W' ⟨b, o, none⟩ v k (fun e => by
    have e' : k = b := e
    subst e'
    rcases hb with h1 | h1
    · exact hn h1
    · omega)).trans (h.block k hk hn)⟩
theorem Keeps.cell {S : List Nat} {W W' : World} (h : Keeps S W W') {b o : Nat} {v : Value} (hc : W.cell? ⟨b, o, none⟩ = some v) (hb : b ∉ S) : W'.cell? ⟨b, o, none⟩ = some v := by
  have hlt : b < W.heap.size := World.block_lt_of_cell? W _ hc
  unfold World.cell? at hc ⊢
  dsimp only at hc ⊢
  rw [h.block b hlt hb]
  exact hc
structure Ent where
  asn : Asn
  own : List Nat
def Ent.is (W : World) (x : Ent) : Prop := x.asn.P x.own W
def Ent.apart (x y : Ent) : Prop := ∀ k ∈ x.own, k ∉ y.own
theorem Ent.apart_symm {x y : Ent} (h : x.apart y) : y.apart x := fun k hk hx => h k hx hk
def Has (w0 W : World) (L : List Asn) : Prop := ∃ L' : List Ent, L'.map Ent.asn = L ∧ Below w0.heap.size w0 W ∧ (∀ x ∈ L', x.is W ∧ ∀ k ∈ x.own, w0.heap.size ≤ k) ∧ L'.Pairwise Ent.apart
section
variable {w0 W W1 : World} {L M L1 L2 : List Asn} {a b : Asn}
theorem Has.empty (h : Below w0.heap.size w0 W) : Has w0 W [] := ⟨[], rfl, h, fun x hx => by (cases hx), List.Pairwise.nil⟩
theorem Has.below (h : Has w0 W L) : Below w0.heap.size w0 W := by
  obtain ⟨_, _, h, _⟩ := h
  exact h
theorem Has.size (h : Has w0 W L) : w0.heap.size ≤ W.heap.size := h.below.size
theorem Has.step (h : Has w0 W L) (hb : Below W.heap.size W W1) : Has w0 W1 L := by
  obtain ⟨L', rfl, h1, h2, h3⟩ := h
  exact ⟨L', rfl, h1.trans (hb.mono h1.size), fun x hx => ⟨x.asn.stable _ _ _ (h2 x hx).1 (fun k hk => hb.block k (x.asn.live _ _ (h2 x hx).1 k hk)), (h2 x hx).2⟩, h3⟩
theorem Has.sub (h : Has w0 W L) (hs : M.Sublist L) : Has w0 W M := by
  obtain ⟨L', rfl, h1, h2, h3⟩ := h
  obtain ⟨M', hs', rfl⟩ := List.sublist_map_iff.1 hs
  exact ⟨M', rfl, h1, fun x hx => h2 x (hs'.subset hx), h3.sublist hs'⟩
theorem Has.get (h : Has w0 W L) (ha : a ∈ L) : ∃ S, a.P S W ∧ ∀ k ∈ S, w0.heap.size ≤ k := by
  obtain ⟨L', rfl, h1, h2, h3⟩ := h
  obtain ⟨x, hx, rfl⟩ := List.mem_map.1 ha
  exact ⟨x.own, (h2 x hx).1, (h2 x hx).2⟩
/-- what was made just now comes ahead -/
theorem Has.add (h : Has w0 W L) (hb : Below W.heap.size W W1) (S : List Nat) (hS : ∀ k ∈ S, W.heap.size ≤ k) (ha : a.P S W1) : Has w0 W1 (a :: L) := by
  obtain ⟨L', rfl, h1, h2, h3⟩ := h
  refine ⟨⟨a, S⟩ :: L', rfl, h1.trans (hb.mono h1.size), fun y hy => ?_, List.Pairwise.cons (fun y hy => ?_) h3⟩
  · rcases List.mem_cons.1 hy with rfl | hy
    · exact ⟨ha, fun k hk => Nat.le_trans h1.size (hS k hk)⟩
    · exact ⟨y.asn.stable _ _ _ (h2 y hy).1 (fun k hk => hb.block k (y.asn.live _ _ (h2 y hy).1 k hk)), (h2 y hy).2⟩
  · intro k hk hk'
    have := y.asn.live _ _ (h2 y hy).1 k hk'
    have := hS k hk
    omega
/-- one of them was changed -/
theorem Has.turn (h : Has w0 W (L1 ++ a :: L2)) (hT : ∀ S, a.P S W → ∃ S', b.P S' W1 ∧ Keeps S W W1 ∧ ∀ k ∈ S', k ∈ S ∨ W.heap.size ≤ k) : Has w0 W1 (L1 ++ b :: L2) := by
  obtain ⟨L', hm, h1, h2, h3⟩ := h
  obtain ⟨M1, M', rfl, rfl, hm2⟩ := List.map_eq_append_iff.1 hm
  obtain ⟨x, M2, rfl, rfl, rfl⟩ := List.map_eq_cons_iff.1 hm2
  have hxm : x ∈ M1 ++ x :: M2 := by simp
  obtain ⟨S', hb', hk, hn⟩ := hT _ (h2 x hxm).1
  have ap : ∀ y, y ∈ M1 ∨ y ∈ M2 → x.apart y := by
    intro y hy
    rw [List.pairwise_append, List.pairwise_cons] at h3
    rcases hy with hy | hy
    · exact Ent.apart_symm (h3.2.2 y hy x (by simp))
    · exact h3.2.1.1 y hy
  have far : ∀ y, y ∈ M1 ∨ y ∈ M2 → y.is W1 ∧ (∀ k ∈ y.own, w0.heap.size ≤ k) ∧ (⟨b, S'⟩ : Ent).apart y := by
    intro y hy
    have hym : y ∈ M1 ++ x :: M2 := by rcases hy with hy | hy <;> simp [hy]
    have hyi := h2 y hym
    have hlv := y.asn.live _ _ hyi.1
    refine ⟨y.asn.stable _ _ _ hyi.1 (fun k hk2 => hk.block k (hlv k hk2) (fun hx => ap y hy k hx hk2)), hyi.2, fun k hk2 hky => ?_⟩
    rcases hn k hk2 with h4 | h4
    · exact ap y hy k h4 hky
    · have := hlv k hky
      omega
  refine ⟨M1 ++ ⟨b, S'⟩ :: M2, by simp, ⟨hk.os.trans h1.os, hk.tape.trans h1.tape, hk.output.trans h1.output, Nat.le_trans h1.size hk.size, fun k hk2 => (hk.block k (Nat.lt_of_lt_of_le hk2 h1.size) (fun hx => by have := (h2 x hxm).2 k hx; omega)).trans (h1.block k hk2)⟩, fun y hy => ?_, ?_⟩
  · rcases List.mem_append.1 hy with hy | hy
    · exact ⟨(far y (.inl hy)).1, (far y (.inl hy)).2.1⟩
    · rcases List.mem_cons.1 hy with rfl | hy
      · exact ⟨hb', fun k hk2 => by
          rcases hn k hk2 with h4 | h4
          · exact (h2 x hxm).2 k h4
          · exact Nat.le_trans h1.size h4⟩
      · exact ⟨(far y (.inr hy)).1, (far y (.inr hy)).2.1⟩
  · rw [List.pairwise_append, List.pairwise_cons] at h3 ⊢
    refine ⟨h3.1, ⟨fun y hy => (far y (.inr hy)).2.2, h3.2.1.2⟩, fun p hp q hq => ?_⟩
    rcases List.mem_cons.1 hq with rfl | hq
    · exact Ent.apart_symm (far p (.inl hp)).2.2
    · exact h3.2.2 p hp q (by simp [hq])
end
/-! ### rows and boxes -/
def ownL (v : Value) : List Nat := match v.ownBlock with
  | some k => [k]
  | none => []
theorem mem_ownL {v : Value} {k : Nat} : k ∈ ownL v ↔ v.ownBlock = some k := by
  unfold ownL
  split
  · rename_i j hj
    rw [List.mem_singleton, hj]
    exact ⟨fun h => by rw [h], fun h => (Option.some.inj h).symm⟩
  · rename_i hj
    rw [hj]
    simp
/-- a row of the call's own: n elements of type e, size cells each -/
def rowA (e size n : Nat) (v : Value) (xs : List Value) : Asn where
  P S W := S = ownL v ∧ LRow W 0 e size v n xs
  stable := by
    rintro S W W' ⟨rfl, h⟩ hk
    exact ⟨rfl, h.move (fun k hk2 => hk k (mem_ownL.2 hk2))⟩
  live := by
    rintro S W ⟨rfl, h⟩ k hk
    exact (h.lt k (mem_ownL.1 hk)).1
def boxA (b : Nat) (t : TypeId) (cs : Array Value) : Asn where
  P S W := S = [b] ∧ W.heap[b]? = some (.cells cs t (0, 0))
  stable := by
    rintro S W W' ⟨rfl, h⟩ hk
    exact ⟨rfl, (hk b (by simp)).trans h⟩
  live := by
    rintro S W ⟨rfl, h⟩ k hk
    rw [List.mem_singleton] at hk
    rw [hk]
    exact (Array.getElem?_eq_some_iff.1 h).1
theorem Has.box {w0 W : World} {L : List Asn} (h : Has w0 W L) (t : TypeId) (cs : Array Value) : Has w0 (W.alloc (.cells cs t)) (boxA W.heap.size t cs :: L) :=
  h.add ((Below.refl _ _).alloc (Nat.le_refl _) _) [W.heap.size] (by simp) ⟨rfl, heap_alloc_new W _⟩
end Go.Proofs.Ytdpfbmhdbnkdaaa.Tm
