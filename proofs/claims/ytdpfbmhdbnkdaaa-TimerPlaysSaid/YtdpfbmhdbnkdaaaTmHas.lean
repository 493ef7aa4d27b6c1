/- Timers and rows at once: the timer's calls on one of several things in memory; rows for the document's answer, and whether two are alike. -/
import Derived.Test.YtdpfbmhdbnkdaaaTmCopy
set_option linter.unusedVariables false
set_option linter.unusedSimpArgs false
namespace Go.Proofs.Ytdpfbmhdbnkdaaa.Tm
open Go Go.RowKit Go.Proofs.YtdpfbmhdbnkdaaaW.PrintWords Go.Proofs.YtdpfbmhdbnkdaaaW.PrintLast Go.Proofs.YtdpfbmhdbnkdaaaW.PrintMore Go.Proofs.Ytdpfbmhdbnkdaaa Go.Proofs.Ytdpfbmhdbnkdaaa.Print
attribute [local go_sem] max2_int min2_int max_two min_two
/-- one was changed, its blocks the same; what was made besides comes ahead -/
theorem Has.turnAdd {w0 W W1 : World} {L1 L2 : List Asn} {a b c : Asn} (h : Has w0 W (L1 ++ a :: L2)) (hT : ∀ S, a.P S W → b.P S W1 ∧ Keeps S W W1) (T : List Nat) (hT2 : ∀ k ∈ T, W.heap.size ≤ k) (hc : c.P T W1) : Has w0 W1 (c :: (L1 ++ b :: L2)) := by
  obtain ⟨L', hm, h1, h2, h3⟩ := h
  obtain ⟨M1, M', rfl, rfl, hm2⟩ := List.map_eq_append_iff.1 hm
  obtain ⟨x, M2, rfl, rfl, rfl⟩ := List.map_eq_cons_iff.1 hm2
  have hxm : x ∈ M1 ++ x :: M2 := by simp
  obtain ⟨hb', hk⟩ := hT _ (h2 x hxm).1
  have ap : ∀ y, y ∈ M1 ∨ y ∈ M2 → x.apart y := by
    intro y hy
    rw [List.pairwise_append, List.pairwise_cons] at h3
    rcases hy with hy | hy
    · exact Ent.apart_symm (h3.2.2 y hy x (by simp))
    · exact h3.2.1.1 y hy
  have far : ∀ y, y ∈ M1 ∨ y ∈ M2 → y.is W1 ∧ (∀ k ∈ y.own, w0.heap.size ≤ k) ∧ (∀ k ∈ y.own, k < W.heap.size) := by
    intro y hy
    have hym : y ∈ M1 ++ x :: M2 := by rcases hy with hy | hy <;> simp [hy]
    have hyi := h2 y hym
    have hlv := y.asn.live _ _ hyi.1
    exact ⟨y.asn.stable _ _ _ hyi.1 (fun k hk2 => hk.block k (hlv k hk2) (fun hx => ap y hy k hx hk2)), hyi.2, hlv⟩
  have hxl := x.asn.live _ _ (h2 x hxm).1
  refine ⟨⟨c, T⟩ :: (M1 ++ ⟨b, x.own⟩ :: M2), by simp, ⟨hk.os.trans h1.os, hk.tape.trans h1.tape, hk.output.trans h1.output, Nat.le_trans h1.size hk.size, fun k hk2 => (hk.block k (Nat.lt_of_lt_of_le hk2 h1.size) (fun hx => by have := (h2 x hxm).2 k hx; omega)).trans (h1.block k hk2)⟩, fun y hy => ?_, ?_⟩
  · rcases List.mem_cons.1 hy with rfl | hy
    · exact ⟨hc, fun k hk2 => Nat.le_trans h1.size (hT2 k hk2)⟩
    · rcases List.mem_append.1 hy with hy | hy
      · exact ⟨(far y (.inl hy)).1, (far y (.inl hy)).2.1⟩
      · rcases List.mem_cons.1 hy with rfl | hy
        · exact ⟨hb', (h2 x hxm).2⟩
        · exact ⟨(far y (.inr hy)).1, (far y (.inr hy)).2.1⟩
  · rw [List.pairwise_cons]
    refine ⟨fun y hy k hk2 hky => ?_, ?_⟩
    · have := hT2 k hk2
      rcases List.mem_append.1 hy with hy | hy
      · have := (far y (.inl hy)).2.2 k hky; omega
      · rcases List.mem_cons.1 hy with rfl | hy
        · have := hxl k hky; omega
        · have := (far y (.inr hy)).2.2 k hky; omega
    · rw [List.pairwise_append, List.pairwise_cons] at h3 ⊢
      refine ⟨h3.1, ⟨fun y hy => ap y (.inr hy), h3.2.1.2⟩, fun p hp q hq => ?_⟩
      rcases List.mem_cons.1 hq with rfl | hq
      · exact Ent.apart_symm (ap p (.inl hp))
      · exact h3.2.2 p hp q (by simp [hq])
def timA (g : Nat) (pv : Value) (now : Nat) (ws : List W3) : Asn where
  P S W := ∃ m, S = [g, m] ∧ TimAt W g m pv now ws
  stable := by
    rintro S W W' ⟨m, rfl, h⟩ hk
    exact ⟨m, rfl, h.move (hk g (by simp)) (hk m (by simp))⟩
  live := by
    rintro S W ⟨m, rfl, h⟩ k hk
    simp only [List.mem_cons, List.not_mem_nil, or_false] at hk
    rcases hk with rfl | rfl
    · exact h.lt.1
    · exact h.lt.2
/-- a row of releases -/
def dueA (v : Value) (l : List S48) : Asn := rowA 48 2 l.length v (l.flatMap enc2)
/-- a row of whole numbers -/
def intA (v : Value) (l : List Int) : Asn := rowA 3 1 l.length v (l.map (Value.int .i64))
theorem ps_at {S : List Nat} {W : World} {pb pc : Nat} {ps : List Int} (h : (intA (.slice (some ⟨pb, 0, none⟩) ps.length pc) ps).P S W) : PsAt W pb ps := by
  obtain ⟨_, h⟩ := h
  intro i hi
  have := LRow.cell h i (.int .i64 (ps.getD i 0)) (by rw [List.getElem?_map, List.getD_eq_getElem?_getD, List.getElem?_eq_getElem hi]; rfl)
  rwa [add_plain] at this
theorem pk_at {S : List Nat} {W : World} {A : Option Addr} {c : Nat} {qs : List Int} (h : (intA (.slice A qs.length c) qs).P S W) : PkAt W A c qs := by
  obtain ⟨_, h⟩ := h
  obtain ⟨A', c', hv, hle⟩ := LRow.slice h
  injection hv with h1 h2 h3
  subst h3
  refine ⟨hle, fun i hi => ?_⟩
  rcases h.2 with ⟨_, h3⟩ | ⟨b, cap, cur, h3, _⟩
  · omega
  · injection h3 with h3 _ _
    subst h3
    refine ⟨_, rfl, LRow.cell h i (.int .i64 (qs.getD i 0)) (by rw [List.getElem?_map, List.getD_eq_getElem?_getD, List.getElem?_eq_getElem hi]; rfl)⟩
section
variable {w0 W : World} {L L1 L2 : List Asn} {g pb pc now : Nat} {ps qs : List Int} {ws : List W3}
theorem newH (h : Has w0 W L) {A : Option Addr} {c : Nat} (hq : PkAt W A c ps) (hok : PsOk ps) : Calls Try.prog 11 #[.slice A ps.length c] W fun e w' => ∃ g pb pc, e = .returned (.tuple #[.pointer (some ⟨g, 0, none⟩), .int .i64 0]) ∧
    Has w0 w' (timA g (.slice (some ⟨pb, 0, none⟩) ps.length pc) 0 [] :: intA (.slice (some ⟨pb, 0, none⟩) ps.length pc) ps :: L) := by
  refine (new_any ps A c W hq).mono ?_
  rintro e w' (⟨_, g, m, pb, pc, rfl, hT, hr, hb, hg, hm, h1, h2⟩ | ⟨hn, _⟩)
  · refine ⟨g, pb, pc, rfl, ?_⟩
    have hpb := (LRow.lt hr pb rfl).2.1
    have h0 := h.step hb
    obtain ⟨L', rfl, k1, k2, k3⟩ := h
    have hlv : ∀ y ∈ L', ∀ k ∈ y.own, k < W.heap.size := fun y hy => y.asn.live _ _ (k2 y hy).1
    have hst : ∀ y ∈ L', y.is w' := fun y hy => y.asn.stable _ _ _ (k2 y hy).1 (fun k hk => hb.block k (hlv y hy k hk))
    refine ⟨⟨timA g (.slice (some ⟨pb, 0, none⟩) ps.length pc) 0 [], [g, m]⟩ :: ⟨intA (.slice (some ⟨pb, 0, none⟩) ps.length pc) ps, [pb]⟩ :: L', rfl, h0.below, fun y hy => ?_, ?_⟩
    · rcases List.mem_cons.1 hy with rfl | hy
      · refine ⟨⟨m, rfl, hT⟩, fun k hk => ?_⟩
        simp only [List.mem_cons, List.not_mem_nil, or_false] at hk
        have := k1.size
        rcases hk with rfl | rfl <;> omega
      · rcases List.mem_cons.1 hy with rfl | hy
        · exact ⟨⟨rfl, LRow.low hr (Nat.zero_le _)⟩, fun k hk => by rw [List.mem_singleton] at hk; have := k1.size; omega⟩
        · exact ⟨hst y hy, (k2 y hy).2⟩
    · rw [List.pairwise_cons, List.pairwise_cons]
      refine ⟨fun y hy k hk hky => ?_, fun y hy k hk hky => ?_, k3⟩
      · simp only [List.mem_cons, List.not_mem_nil, or_false] at hk
        rcases List.mem_cons.1 hy with rfl | hy
        · rw [List.mem_singleton] at hky
          rcases hk with rfl | rfl <;> omega
        · have := hlv y hy k hky
          rcases hk with rfl | rfl <;> omega
      · rw [List.mem_singleton] at hk
        have := hlv y hy k hky
        omega
  · exact absurd hok hn
theorem newNo {A : Option Addr} {c : Nat} (hq : PkAt W A c ps) (hok : ¬ PsOk ps) : Calls Try.prog 11 #[.slice A ps.length c] W fun e w' => e = .returned (.tuple #[.pointer none, .int .i64 1]) ∧ W = w' := by
  refine (new_any ps A c W hq).mono ?_
  rintro e w' (⟨h1, _⟩ | ⟨_, h1, h2⟩)
  · exact absurd h1 hok
  · exact ⟨h1, h2⟩
theorem tickH (h : Has w0 W (L1 ++ timA g (.slice (some ⟨pb, 0, none⟩) ps.length pc) now ws :: L2)) (hp : intA (.slice (some ⟨pb, 0, none⟩) ps.length pc) ps ∈ L1 ++ timA g (.slice (some ⟨pb, 0, none⟩) ps.length pc) now ws :: L2) (hok : PsOk ps) (hgood : Good ps now ws) (hn : now ≤ 10000)
    {A : Option Addr} {c : Nat} (hq : PkAt W A c qs) (hql : (qs.length : Int) ≤ 9223372036854775807) : Calls Try.prog 14 #[.pointer (some ⟨g, 0, none⟩), .slice A qs.length c] W fun e w' => ∃ A' c', ((told now (rel now 0 ps qs ws)).map W3.due).length ≤ c' ∧ e = .returned (.slice A' ((told now (rel now 0 ps qs ws)).map W3.due).length c') ∧
      Has w0 w' (dueA (.slice A' ((told now (rel now 0 ps qs ws)).map W3.due).length c') ((told now (rel now 0 ps qs ws)).map W3.due) :: (L1 ++ timA g (.slice (some ⟨pb, 0, none⟩) ps.length pc) (now + 1) (left now (rel now 0 ps qs ws)) :: L2)) := by
  obtain ⟨_, ⟨m, rfl, hT⟩, _⟩ := h.get (a := timA g (.slice (some ⟨pb, 0, none⟩) ps.length pc) now ws) (by simp)
  obtain ⟨_, hP, _⟩ := h.get hp
  refine (tick_any g m pb pc ps now ws A c qs W hT (ps_at hP) hok hgood hn hq hql).mono ?_
  rintro e w' ⟨v, rfl, hr, hT2, hk⟩
  obtain ⟨A', c', rfl, hc⟩ := LRow.slice hr
  refine ⟨A', c', hc, rfl, h.turnAdd (fun S hS => ?_) (ownL (.slice A' ((told now (rel now 0 ps qs ws)).map W3.due).length c')) (fun k hk2 => (LRow.lt hr k (mem_ownL.1 hk2)).2.1) ⟨rfl, LRow.low hr (Nat.zero_le _)⟩⟩
  obtain ⟨m', rfl, hT3⟩ := hS
  have e1 : m' = m := by
    have h1 := hT3.blk
    rw [hT.blk] at h1
    injection h1 with h1
    injection h1 with h1
    have h2 := congrArg Array.toList h1
    simp at h2
    exact h2.symm
  subst e1
  exact ⟨⟨m', rfl, hT2⟩, hk⟩
theorem waitH (h : Has w0 W L) {pv : Value} (ht : timA g pv now ws ∈ L) (hs : Sorted ws) (hl : ws.length ≤ 100000) : Calls Try.prog 18 #[.pointer (some ⟨g, 0, none⟩)] W fun e w' => ∃ A' c', (ws.map W3.due).length ≤ c' ∧ e = .returned (.slice A' (ws.map W3.due).length c') ∧ Has w0 w' (dueA (.slice A' (ws.map W3.due).length c') (ws.map W3.due) :: L) := by
  obtain ⟨_, ⟨m, rfl, hT⟩, _⟩ := h.get ht
  refine (wait_any g m pv now ws W hT hs hl).mono ?_
  rintro e w' ⟨v, rfl, hr, hb⟩
  obtain ⟨A', c', rfl, hc⟩ := LRow.slice hr
  exact ⟨A', c', hc, rfl, h.add hb _ (fun k hk2 => (LRow.lt hr k (mem_ownL.1 hk2)).2.1) ⟨rfl, LRow.low hr (Nat.zero_le _)⟩⟩
theorem copyH (h : Has w0 W L) {A : Option Addr} {n c : Nat} (ht : timA g (.slice A n c) now ws ∈ L) (hl : ws.length ≤ 100000) : Calls Try.prog 13 #[.pointer (some ⟨g, 0, none⟩)] W fun e w' => ∃ g', e = .returned (.pointer (some ⟨g', 0, none⟩)) ∧ Has w0 w' (timA g' (.slice A n c) now ws :: L) := by
  obtain ⟨_, ⟨m, rfl, hT⟩, _⟩ := h.get ht
  refine (copy_any g m A n c now ws W hT hl).mono ?_
  rintro e w' ⟨g', m', rfl, hT2, hb, hg, hm⟩
  exact ⟨g', rfl, h.add hb [g', m'] (fun k hk => by simp only [List.mem_cons, List.not_mem_nil, or_false] at hk; rcases hk with rfl | rfl <;> assumption) ⟨m', rfl, hT2⟩⟩
theorem nowH (h : Has w0 W L) {pv : Value} (ht : timA g pv now ws ∈ L) : Calls Try.prog 20 #[.pointer (some ⟨g, 0, none⟩)] W fun e w' => e = .returned (.int .i64 now) ∧ W = w' := by
  obtain ⟨_, ⟨m, rfl, hT⟩, _⟩ := h.get ht
  exact now_is W g now hT.c1
end
/-! ### rows for the document's answer -/
def conv (j : S48) : S58 := ⟨j.f0, j.f1⟩
theorem take_snocS (l : List S48) (k : Nat) (h : k < l.length) : l.take (k + 1) = l.take k ++ [l.getD k z48] := by
  rw [List.getD_eq_getElem?_getD, List.getElem?_eq_getElem h]
  exact List.take_succ_eq_append_getElem h
theorem plain_loop (l : List S48) (hl : l.length ≤ 1000000) : ∀ d j k : Nat, j + d = l.length → d < k → camshaftlaw16_Plain.l0 k l ((l.take j).map conv) (j : Int) = some (l.map conv) := by
  intro d
  induction d with
  | zero =>
    intro j k hj hk
    obtain ⟨k, rfl⟩ : ∃ m, k = m + 1 := ⟨k - 1, by omega⟩
    rw [camshaftlaw16_Plain.l0, if_neg (by omega), List.take_of_length_le (by omega)]
  | succ d ih =>
    intro j k hj hk
    obtain ⟨k, rfl⟩ : ∃ m, k = m + 1 := ⟨k - 1, by omega⟩
    have hw : wrap64 ((j : Int) + 1) = ((j + 1 : Nat) : Int) := by rw [wrapIn (by omega)]; omega
    have hrd : rd_T48 l (j : Int) = l.getD j z48 := by unfold rd_T48; rw [Int.toNat_natCast]
    rw [camshaftlaw16_Plain.l0, if_pos (by omega), if_pos (by omega), hrd]
    rw [if_pos (by simp; omega), hw, ← ih (j + 1) k (by omega) (by omega), take_snocS l j (by omega), List.map_append]
    rfl
theorem plain_f (l : List S48) (hl : l.length ≤ 1000000) (k : Nat) (hk : l.length < k) : camshaftlaw16_Plain.f k l = some (l.map conv) := plain_loop l hl l.length 0 k (by omega) hk
theorem same_loop (xs : List S58) (hl : xs.length ≤ 1000000) : ∀ d j k : Nat, j + d = xs.length → d < k → camshaftref16_Same.l0 k xs xs (j : Int) = some true := by
  intro d
  induction d with
  | zero =>
    intro j k hj hk
    obtain ⟨k, rfl⟩ : ∃ m, k = m + 1 := ⟨k - 1, by omega⟩
    rw [camshaftref16_Same.l0, if_neg (by omega)]
  | succ d ih =>
    intro j k hj hk
    obtain ⟨k, rfl⟩ : ∃ m, k = m + 1 := ⟨k - 1, by omega⟩
    have hw : wrap64 ((j : Int) + 1) = ((j + 1 : Nat) : Int) := by rw [wrapIn (by omega)]; omega
    rw [camshaftref16_Same.l0, if_pos (by omega), if_pos (by omega), if_pos (by omega), if_neg (by simp), hw]
    exact ih (j + 1) k (by omega) (by omega)
theorem same_f (xs : List S58) (hl : xs.length ≤ 1000000) (k : Nat) (hk : xs.length < k) : camshaftref16_Same.f k xs xs = some true := by
  unfold camshaftref16_Same.f
  rw [if_pos rfl]
  exact same_loop xs hl xs.length 0 k (by omega) hk
/-- what is read as a row of releases for the document's answer -/
def PlIs (w : World) (A : Option Addr) (c : Nat) (l : List S48) : Prop := l.length ≤ c ∧ Kd.C k58 w A l.length (l.map conv)
theorem PlIs.step {w w1 : World} {A : Option Addr} {c : Nat} {l : List S48} (h : PlIs w A c l) (hb : Below w.heap.size w w1) : PlIs w1 A c l := ⟨h.1, Kd.C_below h.2 hb⟩
theorem row_reads {w : World} {B c : Nat} {A : Option Addr} {l : List S48} (h : RowIs w B (.slice A l.length c) l) (hl : l.length ≤ 1000000) : Kd.C k48 w A l.length l := by
  refine ⟨rfl, by omega, fun h0 => ?_⟩
  obtain ⟨b, rfl, _⟩ := h.elem 0 h0
  refine ⟨_, rfl, fun j p hj => ⟨enc2 p, rfl, k48_mk w p, fun i u hu => ?_⟩⟩
  have hi : i < 2 := (List.getElem?_eq_some_iff.1 hu).1
  have hc := LRow.cell h (j * 2 + i) u (by rw [flat_get l j i hi, hj]; exact hu)
  rw [add_plain] at hc
  have e3 : k48.sz = 2 := rfl
  rw [e3, add_plain]
  exact hc
theorem plainC {W : World} {A : Option Addr} {c : Nat} {l : List S48} (hr : Kd.C k48 W A l.length l) (hc : l.length ≤ c) (hl : l.length ≤ 100000) : Calls Try.prog 17 #[.slice A l.length c] W fun e w' => ∃ A' c', e = .returned (.slice A' l.length c') ∧ PlIs w' A' c' l ∧ Below W.heap.size W w' := by
  refine (camshaftlaw16_Plain.calls (l.length + 1) A c l (l.map conv) W hr hc (plain_f l (by omega) _ (by omega))).mono ?_
  rintro e w' ⟨v, rfl, hR, hb⟩
  obtain ⟨A', c', hv, h1, h2⟩ := Kd.R_reads hR
  rw [List.length_map] at hv h1 h2
  exact ⟨A', c', by rw [hv], ⟨h1, h2⟩, hb⟩
theorem sameC {W : World} {A A' : Option Addr} {c c' : Nat} {l : List S48} (h : PlIs W A c l) (h' : PlIs W A' c' l) (hl : l.length ≤ 100000) : Calls Try.prog 16 #[.slice A l.length c, .slice A' l.length c'] W fun e w' => e = .returned (.bool true) ∧ Below W.heap.size W w' := by
  have e : (l.map conv).length = l.length := List.length_map _
  have h0 := camshaftref16_Same.calls (l.length + 1) A c (l.map conv) A' c' (l.map conv) true W (by rw [e]; exact h.2) (by rw [e]; exact h.1) (by rw [e]; exact h'.2) (by rw [e]; exact h'.1) (same_f _ (by omega) _ (by omega))
  rw [e] at h0
  refine h0.mono ?_
  rintro e w' ⟨rfl, hd⟩
  exact ⟨rfl, hd.below⟩
theorem plainH {w0 W : World} {L : List Asn} {A : Option Addr} {c : Nat} {l : List S48} (h : Has w0 W L) (hd : dueA (.slice A l.length c) l ∈ L) (hc : l.length ≤ c) (hl : l.length ≤ 100000) : Calls Try.prog 17 #[.slice A l.length c] W fun e w' => ∃ A' c', e = .returned (.slice A' l.length c') ∧ PlIs w' A' c' l ∧ Below W.heap.size W w' := by
  obtain ⟨_, ⟨_, hr⟩, _⟩ := h.get hd
  exact plainC (row_reads hr (by omega)) hc hl
end Go.Proofs.Ytdpfbmhdbnkdaaa.Tm
