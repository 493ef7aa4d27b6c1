/- The reference's timer in memory: a block with periods, now and a row of what waits; a thing ahead is taken up into a changed one. -/
import Derived.Test.YtdpfbmhdbnkdaaaTmApp
set_option linter.unusedVariables false
set_option linter.unusedSimpArgs false
namespace Go.Proofs.Ytdpfbmhdbnkdaaa.Tm
open Go Go.RowKit Go.Proofs.YtdpfbmhdbnkdaaaW.PrintWords Go.Proofs.YtdpfbmhdbnkdaaaW.PrintLast Go.Proofs.YtdpfbmhdbnkdaaaW.PrintMore Go.Proofs.Ytdpfbmhdbnkdaaa Go.Proofs.Ytdpfbmhdbnkdaaa.Print
attribute [local go_sem] max2_int min2_int max_two min_two
/-- one was changed and took up the one ahead -/
theorem Has.absorb {w0 W W1 : World} {L1 L2 : List Asn} {a b c : Asn} (h : Has w0 W (c :: (L1 ++ a :: L2))) (hT : ∀ S T, a.P S W → c.P T W → (∀ k ∈ T, k ∉ S) → ∃ S', b.P S' W1 ∧ Keeps S W W1 ∧ ∀ k ∈ S', k ∈ S ∨ k ∈ T ∨ W.heap.size ≤ k) : Has w0 W1 (L1 ++ b :: L2) := by
  obtain ⟨L', hm, h1, h2, h3⟩ := h
  obtain ⟨y, M, rfl, rfl, hm1⟩ := List.map_eq_cons_iff.1 hm
  obtain ⟨M1, M', rfl, rfl, hm2⟩ := List.map_eq_append_iff.1 hm1
  obtain ⟨x, M2, rfl, rfl, rfl⟩ := List.map_eq_cons_iff.1 hm2
  rw [List.pairwise_cons, List.pairwise_append, List.pairwise_cons] at h3
  have hxm : x ∈ y :: (M1 ++ x :: M2) := by simp
  have hym : y ∈ y :: (M1 ++ x :: M2) := by simp
  obtain ⟨S', hb', hk, hn⟩ := hT _ _ (h2 x hxm).1 (h2 y hym).1 (h3.1 x (by simp))
  have ap : ∀ z, z ∈ M1 ∨ z ∈ M2 → x.apart z ∧ y.apart z := by
    intro z hz
    rcases hz with hz | hz
    · exact ⟨Ent.apart_symm (h3.2.2.2 z hz x (by simp)), h3.1 z (by simp [hz])⟩
    · exact ⟨h3.2.2.1.1 z hz, h3.1 z (by simp [hz])⟩
  have far : ∀ z, z ∈ M1 ∨ z ∈ M2 → z.is W1 ∧ (∀ k ∈ z.own, w0.heap.size ≤ k) ∧ (⟨b, S'⟩ : Ent).apart z := by
    intro z hz
    have hzm : z ∈ y :: (M1 ++ x :: M2) := by rcases hz with hz | hz <;> simp [hz]
    have hzi := h2 z hzm
    have hlv := z.asn.live _ _ hzi.1
    refine ⟨z.asn.stable _ _ _ hzi.1 (fun k hk2 => hk.block k (hlv k hk2) (fun hx => (ap z hz).1 k hx hk2)), hzi.2, fun k hk2 hkz => ?_⟩
    rcases hn k hk2 with h4 | h4 | h4
    · exact (ap z hz).1 k h4 hkz
    · exact (ap z hz).2 k h4 hkz
    · have := hlv k hkz
      omega
  refine ⟨M1 ++ ⟨b, S'⟩ :: M2, by simp, ⟨hk.os.trans h1.os, hk.tape.trans h1.tape, hk.output.trans h1.output, Nat.le_trans h1.size hk.size, fun k hk2 => (hk.block k (Nat.lt_of_lt_of_le hk2 h1.size) (fun hx => by have := (h2 x hxm).2 k hx; omega)).trans (h1.block k hk2)⟩, fun z hz => ?_, ?_⟩
  · rcases List.mem_append.1 hz with hz | hz
    · exact ⟨(far z (.inl hz)).1, (far z (.inl hz)).2.1⟩
    · rcases List.mem_cons.1 hz with rfl | hz
      · refine ⟨hb', fun k hk2 => ?_⟩
        have := h1.size
        rcases hn k hk2 with h4 | h4 | h4
        · exact (h2 x hxm).2 k h4
        · exact (h2 y hym).2 k h4
        · omega
      · exact ⟨(far z (.inr hz)).1, (far z (.inr hz)).2.1⟩
  · rw [List.pairwise_append, List.pairwise_cons]
    refine ⟨h3.2.1, ⟨fun z hz => (far z (.inr hz)).2.2, h3.2.2.1.2⟩, fun p hp q hq => ?_⟩
    rcases List.mem_cons.1 hq with rfl | hq
    · exact Ent.apart_symm (far p (.inl hp)).2.2
    · exact h3.2.2.2 p hp q (by simp [hq])
/-- a wait's cells -/
def encW (x : W3) : List Value := [.int .i64 x.t, .int .i64 x.n, .int .i64 x.a]
def waitA (v : Value) (l : List W3) : Asn := rowA 62 3 l.length v (l.flatMap encW)
/-- the reference's timer -/
def refA (g : Nat) (pv : Value) (now : Nat) (v : Value) (l : List W3) : Asn where
  P S W := S = g :: ownL v ∧ W.heap[g]? = some (.cells #[pv, .int .i64 now, v] 44 (0, 0)) ∧ LRow W 0 62 3 v l.length (l.flatMap encW)
  stable := by
    rintro S W W' ⟨rfl, h1, h2⟩ hk
    exact ⟨rfl, (hk g (by simp)).trans h1, h2.move (fun k hk2 => hk k (by simp [mem_ownL.2 hk2]))⟩
  live := by
    rintro S W ⟨rfl, h1, h2⟩ k hk
    rcases List.mem_cons.1 hk with rfl | hk
    · exact (Array.getElem?_eq_some_iff.1 h1).1
    · exact (h2.lt k (mem_ownL.1 hk)).1
theorem encW_get (l : List W3) : ∀ (k : Nat) (y : W3), l[k]? = some y → (l.flatMap encW)[k * 3]? = some (.int .i64 y.t) ∧ (l.flatMap encW)[k * 3 + 1]? = some (.int .i64 y.n) ∧ (l.flatMap encW)[k * 3 + 2]? = some (.int .i64 y.a) := by
  induction l with
  | nil => intro k y h; simp at h
  | cons z l ih =>
    intro k y h
    rw [List.flatMap_cons]
    have e : (encW z).length = 3 := rfl
    cases k with
    | zero =>
      rw [List.getElem?_cons_zero] at h
      injection h with h
      subst h
      exact ⟨rfl, rfl, rfl⟩
    | succ k =>
      rw [List.getElem?_cons_succ] at h
      have := ih k y h
      refine ⟨?_, ?_, ?_⟩
      · rw [List.getElem?_append_right (by omega), e, show (k + 1) * 3 - 3 = k * 3 by omega]; exact this.1
      · rw [List.getElem?_append_right (by omega), e, show (k + 1) * 3 + 1 - 3 = k * 3 + 1 by omega]; exact this.2.1
      · rw [List.getElem?_append_right (by omega), e, show (k + 1) * 3 + 2 - 3 = k * 3 + 2 by omega]; exact this.2.2
theorem row_wait {W : World} {A : Option Addr} {n c : Nat} {l : List W3} (hr : LRow W 0 62 3 (.slice A n c) n (l.flatMap encW)) (hn : l.length = n) (k : Nat) (y : W3) (hy : l[k]? = some y) : ∃ b, A = some ⟨b, 0, none⟩ ∧ W.cell? ⟨b, k * 3, none⟩ = some (.int .i64 y.t) ∧ W.cell? ⟨b, k * 3 + 1, none⟩ = some (.int .i64 y.n) ∧ W.cell? ⟨b, k * 3 + 2, none⟩ = some (.int .i64 y.a) := by
  subst hn
  have hk : k < l.length := (List.getElem?_eq_some_iff.1 hy).1
  obtain ⟨e0, e1, e2⟩ := encW_get l k y hy
  rcases hr.2 with ⟨_, h3⟩ | ⟨b, cap, cur, h3, _⟩
  · omega
  · injection h3 with h3 _ _
    subst h3
    have c0 := LRow.cell hr (k * 3) _ e0
    have c1 := LRow.cell hr (k * 3 + 1) _ e1
    have c2 := LRow.cell hr (k * 3 + 2) _ e2
    rw [add_plain] at c0 c1 c2
    exact ⟨b, rfl, c0, c1, c2⟩
theorem ref_cells {w0 W : World} {L : List Asn} {g : Nat} {pv v : Value} {now : Nat} {l : List W3} (h : Has w0 W L) (hd : refA g pv now v l ∈ L) : W.cell? ⟨g, 0, none⟩ = some pv ∧ W.cell? ⟨g, 1, none⟩ = some (.int .i64 now) ∧ W.cell? ⟨g, 2, none⟩ = some v ∧ ∃ A c, v = .slice A l.length c ∧ LRow W 0 62 3 v l.length (l.flatMap encW) := by
  obtain ⟨_, ⟨_, h1, h2⟩, _⟩ := h.get hd
  obtain ⟨A, c, hv, _⟩ := LRow.slice h2
  exact ⟨by rw [blk_cell h1]; rfl, by rw [blk_cell h1]; rfl, by rw [blk_cell h1]; rfl, A, c, hv, h2⟩
theorem int_cell {w0 W : World} {L : List Asn} {A : Option Addr} {n c : Nat} {l : List Int} (h : Has w0 W L) (hd : intA (.slice A n c) l ∈ L) (hn : l.length = n) (k : Nat) (x : Int) (hx : l[k]? = some x) : ∃ b, A = some ⟨b, 0, none⟩ ∧ W.cell? ⟨b, k, none⟩ = some (.int .i64 x) := by
  subst hn
  obtain ⟨_, ⟨_, hr⟩, _⟩ := h.get hd
  have hk : k < l.length := (List.getElem?_eq_some_iff.1 hx).1
  rcases hr.2 with ⟨_, h3⟩ | ⟨b, cap, cur, h3, _⟩
  · omega
  · injection h3 with h3 _ _
    subst h3
    have := LRow.cell hr k (.int .i64 x) (by rw [List.getElem?_map, hx]; rfl)
    rw [add_plain] at this
    exact ⟨b, rfl, this⟩
end Go.Proofs.Ytdpfbmhdbnkdaaa.Tm
