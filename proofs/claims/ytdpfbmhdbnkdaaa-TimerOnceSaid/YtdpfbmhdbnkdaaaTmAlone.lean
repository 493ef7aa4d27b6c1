/- TimerAlone: a task is told what it would be told if it were alone. -/
import Derived.Test.YtdpfbmhdbnkdaaaTmLate
import Derived.Test.YtdpfbmhdbnkdaaaOpenBytes
set_option linter.unusedVariables false
set_option linter.unusedSimpArgs false
namespace Go.Proofs.Ytdpfbmhdbnkdaaa.Tm
open Go Go.RowKit Go.Proofs.YtdpfbmhdbnkdaaaW.PrintWords Go.Proofs.YtdpfbmhdbnkdaaaW.PrintLast Go.Proofs.YtdpfbmhdbnkdaaaW.PrintMore Go.Proofs.Ytdpfbmhdbnkdaaa Go.Proofs.Ytdpfbmhdbnkdaaa.Print
attribute [local go_sem] max2_int min2_int max_two min_two
/-- what waits of task 1, as task 0 -/
def own1 (ws : List W3) : List W3 := (ws.filter (fun x => decide (x.t = 1))).map (fun x => ⟨0, x.n, x.a⟩)
theorem own1_cons (x : W3) (ws : List W3) : own1 (x :: ws) = if x.t = 1 then ⟨0, x.n, x.a⟩ :: own1 ws else own1 ws := by
  unfold own1
  rw [List.filter_cons]
  by_cases h : x.t = 1 <;> simp [h]
theorem own1_ins0 (n a : Int) : ∀ ws : List W3, own1 (ins ⟨0, n, a⟩ ws) = own1 ws := by
  intro ws
  induction ws with
  | nil => rfl
  | cons y ws ih =>
    rw [ins]
    split
    · rw [own1_cons, own1_cons, ih]
    · rw [own1_cons, if_neg (show ¬ ((0 : Int) = 1) by decide)]
theorem own1_ins1 (n a : Int) : ∀ ws : List W3, (∀ x ∈ ws, x.t = 0 ∨ x.t = 1) → own1 (ins ⟨1, n, a⟩ ws) = ins ⟨0, n, a⟩ (own1 ws) := by
  intro ws
  induction ws with
  | nil => intro _; rfl
  | cons y ws ih =>
    intro h
    have hr := ih (fun x hx => h x (by simp [hx]))
    rcases h y (by simp) with h0 | h1
    · rw [ins, if_pos (by unfold W3.lt; show y.t < 1 ∨ _; omega), own1_cons, if_neg (by omega), own1_cons, if_neg (by omega)]
      exact hr
    · rw [ins, own1_cons, if_pos h1, ins]
      by_cases hl : y.n < n
      · rw [if_pos (show y.lt ⟨1, n, a⟩ by unfold W3.lt; show y.t < 1 ∨ (y.t = 1 ∧ y.n < n); omega), if_pos (show (⟨0, y.n, y.a⟩ : W3).lt ⟨0, n, a⟩ by unfold W3.lt; show (0 : Int) < 0 ∨ ((0 : Int) = 0 ∧ y.n < n); omega), own1_cons, if_pos h1, hr]
      · rw [if_neg (show ¬ y.lt ⟨1, n, a⟩ by unfold W3.lt; show ¬ (y.t < 1 ∨ (y.t = 1 ∧ y.n < n)); omega), if_neg (show ¬ (⟨0, y.n, y.a⟩ : W3).lt ⟨0, n, a⟩ by unfold W3.lt; show ¬ ((0 : Int) < 0 ∨ ((0 : Int) = 0 ∧ y.n < n)); omega), own1_cons, if_pos rfl, own1_cons, if_pos h1]
def picks (s a j : Int) : List Int := if s % a = 0 then [j, j] else [j]
theorem own1_rel (s a b j : Int) (ws : List W3) (h : ∀ x ∈ ws, x.t = 0 ∨ x.t = 1) : own1 (rel s 0 [a, b] (picks s a j) ws) = rel s 0 [b] [j] (own1 ws) := by
  have key : ∀ us : List W3, (∀ x ∈ us, x.t = 0 ∨ x.t = 1) → own1 us = own1 ws → own1 (rel s 1 [b] [j] us) = rel s 0 [b] [j] (own1 ws) := by
    intro us hu he
    by_cases hb : s % b = 0
    · simp only [rel, if_pos hb]
      rw [own1_ins1 _ _ us hu, he]
    · simp only [rel, if_neg hb]
      exact he
  unfold picks
  by_cases hs : s % a = 0
  · rw [if_pos hs, rel, if_pos hs, List.tail_cons]
    refine key _ (fun x hx => ?_) (own1_ins0 _ _ _)
    rcases mem_ins.1 hx with rfl | hx
    · exact .inl rfl
    · exact h x hx
  · rw [if_neg hs, rel, if_neg hs]
    exact key ws h rfl
theorem own1_told (s : Int) (ws : List W3) : own1 (told s ws) = told s (own1 ws) ∧ own1 (left s ws) = left s (own1 ws) := by
  unfold own1 told left
  constructor
  · rw [List.filter_map, List.filter_filter, List.filter_filter]
    congr 1
    apply List.filter_congr
    intro x _
    simp [Function.comp, Bool.and_comm]
  · rw [List.filter_map, List.filter_filter, List.filter_filter]
    congr 1
    apply List.filter_congr
    intro x _
    simp [Function.comp, Bool.and_comm]
/-- of a row of releases, those of task 1, as of task 0 -/
def is1 (x : S48) : Bool := decide (x.f0 = 1)
def due1 (D : List S48) : List S48 := (D.filter is1).map (fun x => ⟨0, x.f1⟩)
theorem due1_own (ws : List W3) : (own1 ws).map W3.due = due1 (ws.map W3.due) := by
  unfold own1 due1
  rw [List.filter_map, List.map_map, List.map_map]
  rfl
def cnt (D : List S48) (i : Nat) : Nat := ((D.take i).filter is1).length
theorem cnt_le (D : List S48) (i : Nat) : cnt D i ≤ (due1 D).length := by
  unfold cnt due1
  rw [List.length_map]
  exact ((List.take_sublist i D).filter _).length_le
theorem cnt_end (D : List S48) : cnt D D.length = (due1 D).length := by
  unfold cnt due1
  rw [List.length_map, List.take_length]
theorem cnt_step (D : List S48) (i : Nat) (h : i < D.length) : cnt D (i + 1) = cnt D i + (if (D.getD i z48).f0 = 1 then 1 else 0) ∧ ((D.getD i z48).f0 = 1 → (due1 D)[cnt D i]? = some ⟨0, (D.getD i z48).f1⟩) := by
  have e1 := take_snocS D i h
  constructor
  · unfold cnt
    rw [e1, List.filter_append, List.length_append, List.filter_cons]
    unfold is1
    split <;> rename_i hx <;> simp at hx <;> simp [hx]
  · intro hx
    have e2 : D.filter is1 = (D.take i).filter is1 ++ (D.drop i).filter is1 := by rw [← List.filter_append, List.take_append_drop]
    have e3 : D.drop i = D.getD i z48 :: D.drop (i + 1) := by
      rw [List.getD_eq_getElem?_getD, List.getElem?_eq_getElem h]
      exact List.drop_eq_getElem_cons h
    unfold due1 cnt
    rw [e2, e3, List.filter_cons, if_pos (by unfold is1; exact decide_eq_true hx), List.getElem?_map, List.getElem?_append_right (Nat.le_refl _), Nat.sub_self]
    rfl
/-- one slot, both timers -/
theorem alone_slot {a b : Int} {s : Nat} {j : Int} {ws : List W3} (hg : Good [a, b] s ws) (hp : PsOk [a, b]) (hs : s ≤ 1000) :
    (told s (rel s 0 [b] [j] (own1 ws))).map W3.due = due1 ((told s (rel s 0 [a, b] (picks s a j) ws)).map W3.due) ∧ left s (rel s 0 [b] [j] (own1 ws)) = own1 (left s (rel s 0 [a, b] (picks s a j) ws)) ∧
    ((told s (rel s 0 [a, b] (picks s a j) ws)).map W3.due).length ≤ 100000 := by
  have ht : ∀ x ∈ ws, x.t = 0 ∨ x.t = 1 := fun x hx => by
    have := hg.task x hx
    simp at this
    omega
  have e := own1_rel s a b j ws ht
  have hm := rel_mid [a, b] s hp.le [a, b] (picks s a j) 0 ws (by simp) hg.mid
  rw [show ((0 : Nat) : Int) = 0 from rfl] at hm
  refine ⟨?_, ?_, ?_⟩
  · rw [← e, ← (own1_told s _).1, due1_own]
  · rw [← e, (own1_told s _).2]
  · have h1 : (told s (rel s 0 [a, b] (picks s a j) ws)).length ≤ (rel s 0 [a, b] (picks s a j) ws).length := List.length_filter_le _ _
    have := hm.len
    have : [a, b].length = 2 := rfl
    rw [List.length_map]
    omega
theorem ok_tail {a b : Int} (h : PsOk [a, b]) : PsOk [b] := ⟨by simp, by simp, fun p hp => h.each p (by simp at hp; simp [hp])⟩
abbrev tA (g pb pc : Nat) (a b : Int) (s : Nat) (ws : List W3) : Asn := timA g (.slice (some ⟨pb, 0, none⟩) 2 pc) s ws
abbrev pA (pb pc : Nat) (a b : Int) : Asn := intA (.slice (some ⟨pb, 0, none⟩) 2 pc) [a, b]
def AloneRel (w : World) (g1 pb1 pc1 g2 pb2 pc2 : Nat) (a b : Int) (m : Nat) (vi : Value) (wr : World) : Prop := ∃ (s : Nat) (ws : List W3), s ≤ 200 ∧ s ≤ m ∧ vi = .int .i64 s ∧ Good [a, b] s ws ∧ Good [b] s (own1 ws) ∧ Has w wr [tp g2 pb2 pc2 s (own1 ws), pp pb2 pc2 b, tA g1 pb1 pc1 a b s ws, pA pb1 pc1 a b]
def AloneIn (w : World) (L : List Asn) (D : List S48) (vk vi : Value) (wr : World) : Prop := ∃ i : Nat, i ≤ D.length ∧ vi = .int .i64 i ∧ vk = .int .i64 (cnt D i : Nat) ∧ Has w wr L
def dA (s : Nat) (a b j : Int) (ws : List W3) : List S48 := (told s (rel s 0 [a, b] (picks s a j) ws)).map W3.due
def lA (s : Nat) (a b j : Int) (ws : List W3) : List W3 := left s (rel s 0 [a, b] (picks s a j) ws)
theorem tickA {w0 W : World} {L1 L2 : List Asn} {g pb pc s n : Nat} {a b j : Int} {ws : List W3} (h : Has w0 W (L1 ++ tA g pb pc a b s ws :: L2)) (hp : pA pb pc a b ∈ L1 ++ tA g pb pc a b s ws :: L2) (hok : PsOk [a, b]) (hgood : Good [a, b] s ws) (hn : s ≤ 1000) {A : Option Addr} {c : Nat} (hpl : (picks s a j).length = n) (hq : PkAt W A c (picks s a j)) :
    Calls Try.prog 14 #[.pointer (some ⟨g, 0, none⟩), .slice A n c] W fun e w' => ∃ A' c', (dA s a b j ws).length ≤ c' ∧ e = .returned (.slice A' (dA s a b j ws).length c') ∧
      Has w0 w' (dueA (.slice A' (dA s a b j ws).length c') (dA s a b j ws) :: (L1 ++ tA g pb pc a b (s + 1) (lA s a b j ws) :: L2)) := by
  subst hpl
  exact tickH (ps := [a, b]) (qs := picks s a j) (now := s) h hp hok hgood (by omega) hq (by unfold picks; split <;> simp)
theorem tickB {w0 W : World} {L1 L2 : List Asn} {g pb pc s : Nat} {a b j : Int} {ws : List W3} (h : Has w0 W (L1 ++ tp g pb pc s (own1 ws) :: L2)) (hp : pp pb pc b ∈ L1 ++ tp g pb pc s (own1 ws) :: L2) (hok : PsOk [a, b]) (hgA : Good [a, b] s ws) (hgood : Good [b] s (own1 ws)) (hn : s ≤ 1000) {A : Option Addr} (hq : PkAt W A 1 [j]) :
    Calls Try.prog 14 #[.pointer (some ⟨g, 0, none⟩), .slice A 1 1] W fun e w' => ∃ A' c', (due1 (dA s a b j ws)).length ≤ c' ∧ e = .returned (.slice A' (due1 (dA s a b j ws)).length c') ∧
      Has w0 w' (dueA (.slice A' (due1 (dA s a b j ws)).length c') (due1 (dA s a b j ws)) :: (L1 ++ tp g pb pc (s + 1) (own1 (lA s a b j ws)) :: L2)) := by
  obtain ⟨e1, e2, _⟩ := alone_slot (j := j) hgA hok hn
  have := tickH (ps := [b]) (qs := [j]) (now := s) h hp (ok_tail hok) hgood (by omega) hq (by simp)
  rw [e1, e2] at this
  exact this
theorem next_good {a b j : Int} {s : Nat} {ws : List W3} (hok : PsOk [a, b]) (hgA : Good [a, b] s ws) (hgood : Good [b] s (own1 ws)) (hn : s ≤ 1000) : Good [a, b] (s + 1) (lA s a b j ws) ∧ Good [b] (s + 1) (own1 (lA s a b j ws)) ∧ (dA s a b j ws).length ≤ 100000 ∧ (due1 (dA s a b j ws)).length ≤ 100000 := by
  obtain ⟨e1, e2, e3⟩ := alone_slot (j := j) hgA hok hn
  have h2 := hgood.next (ok_tail hok) [j]
  rw [e2] at h2
  refine ⟨hgA.next hok _, h2, e3, ?_⟩
  have : (due1 (dA s a b j ws)).length ≤ (dA s a b j ws).length := by unfold due1; rw [List.length_map]; exact List.length_filter_le _ _
  exact Nat.le_trans this e3
theorem alone_num {D : List S48} {i : Nat} (hi : i ≤ D.length) (hl : D.length ≤ 100000) (hl2 : (due1 D).length ≤ 100000) : i ≤ 100000 ∧ cnt D i ≤ 100000 := ⟨by omega, Nat.le_trans (cnt_le D i) hl2⟩
theorem picks_len (s a j : Int) : (picks s a j).length ≤ 2 := by unfold picks; split <;> simp
theorem one_ints (l : List Int) : ∀ u ∈ l.map (Value.int .i64), u.oneCell' = true := by
  intro u hu
  obtain ⟨x, _, rfl⟩ := List.mem_map.1 hu
  rfl
set_option maxRecDepth 100000 in
set_option maxHeartbeats 8000000 in
theorem alone_core (a b : Int) (A : Option Addr) (m c : Nat) (w : World) (hok : PsOk [a, b]) (hm : (m : Int) < 9223372036854775808) (hJ : ∀ k, k < m → ∃ ad v, A = some ad ∧ w.cell? (ad.add k) = some (.int .u8 v) ∧ 0 ≤ v ∧ v < 256) : Calls Try.prog 5 #[.int .i64 a, .int .i64 b, .slice A m c] w fun e w' => e = .returned (.bool true) ∧ Below w.heap.size w w' := by
  have H0 := Lib.hid (Has.empty (Below.refl w.heap.size w))
  have N1 := Lib.hid (newH (ps := [a, b]) (W := (w.alloc (.cells #[.int .i64 a, .int .i64 b] 3))) (H0.out.step ((Below.refl _ _).alloc (Nat.le_refl _) (.cells #[.int .i64 a, .int .i64 b] 3))) (pk_row w [a, b]) hok)
  have hokb := Lib.hid (ok_tail hok)
  have HJ := Lib.hid hJ
  have HK := Lib.hid hok
  have ha1 : 1 ≤ a := (hok.each a (by simp)).1
  clear hJ hok
  go_enter Try.func5, Try.ntmps5
  go_wp2_with fail
  refine N1.out.mono ?_
  rintro e w1 ⟨g1, pb1, pc1, rfl, H1⟩
  have N2 := Lib.hid (newH (ps := [b]) (W := (w1.alloc (.cells #[.int .i64 b] 3))) (H1.step ((Below.refl _ _).alloc (Nat.le_refl _) (.cells #[.int .i64 b] 3))) (pk_row w1 [b]) hokb.out)
  clear N1 H1 H0
  go_wp2_with fail
  refine N2.out.mono ?_
  rintro e w2 ⟨g2, pb2, pc2, rfl, H2⟩
  replace H2 := Lib.hid H2
  clear N2
  go_wp2_with fail
  go_loopw [11] (fun vi wr => AloneRel w g1 pb1 pc1 g2 pb2 pc2 a b m vi wr) (fun vi _ => 200 - (intOf vi).toNat)
  case atStart => exact ⟨0, [], by decide, Nat.zero_le _, rfl, Good.start _, Good.start _, H2.out⟩
  case round =>
    obtain ⟨s, ws, hs, hsm, rfl, hgd1, hgd2, HS⟩ := hrel
    replace HS := Lib.hid HS
    replace hgd1 := Lib.hid hgd1
    replace hgd2 := Lib.hid hgd2
    clear H2
    by_cases hlen : s < m
    · have hlen' : (s : Int) < (m : Int) := Int.ofNat_lt.2 hlen
      by_cases hsn : s < 200
      · have hsn' : (s : Int) < 200 := by omega
        obtain ⟨ad, j, rfl, hcell, hj⟩ := HJ.out s hlen
        have hcell2 := (HS.out.below.cell (World.block_lt_of_cell? w _ hcell)).trans hcell
        have hwj : wrap64 j = j := wrapIn (by omega)
        have ha0 : (a == 0) = false := beq_eq_false_iff_ne.mpr (by omega)
        have KB := Lib.hid (show Has w wr (intA (.slice none 0 0) [] :: [tp g2 pb2 pc2 s (own1 ws), pp pb2 pc2 b, tA g1 pb1 pc1 a b s ws, pA pb1 pc1 a b]) from intA_nil _ _ HS.out)
        by_cases hsa : (s : Int) % a = 0
        · have t2 : ((s : Int) % a == 0) = true := by simp [hsa]
          have K0 := Lib.hid (Has.ints KB.out [j] (by simp))
          go_wp2_with (first | (at_builtin; refine wpList_append_row _ rfl (.tmp 69) (.tmp 71) 22 3 _ 1 8 rfl Try.underlying22 info3 rfl (by decide) (by decide) (.slice none 0 0) 0 (([] : List Int).map (Value.int .i64)) ([j].map (Value.int .i64)) (some ⟨wr.heap.size, 0, none⟩) 1 1 rfl rfl (one_ints [j]) ?hO ?hD ?len ?go) | fail)
          case hO => exact Has.row K0.out (by simp [intA])
          case hD => exact Has.row K0.out (by simp [intA])
          case len => decide
          case go =>
            intro v1 wrb hrow hg hat
            have K1 := Has.grow (L1 := [intA (.slice (some ⟨wr.heap.size, 0, none⟩) 1 1) [j]]) (L2 := [tp g2 pb2 pc2 s (own1 ws), pp pb2 pc2 b, tA g1 pb1 pc1 a b s ws, pA pb1 pc1 a b]) (v := .slice none 0 0) K0.out hg hrow (hat.imp id (fun h => by simpa using h))
            replace K1 := (intA_app v1 ([] : List Int) [j]) ▸ K1
            obtain ⟨Awr, cwr, rfl, hcwr⟩ := LRow.slice hrow
            clear hrow hg hat K0
            replace KB := Lib.hid (show Has w wrb (intA (.slice Awr 1 cwr) [j] :: [tp g2 pb2 pc2 s (own1 ws), pp pb2 pc2 b, tA g1 pb1 pc1 a b s ws, pA pb1 pc1 a b]) from K1.sub ((List.Sublist.refl _).cons _))
            clear K1
            have K0 := Lib.hid (Has.ints KB.out [j] (by simp))
            go_wp2_with (first | (at_builtin; refine wpList_append_row _ rfl (.tmp 73) (.tmp 75) 22 3 _ 1 8 rfl Try.underlying22 info3 rfl (by decide) (by decide) (.slice Awr 1 cwr) 1 ([j].map (Value.int .i64)) ([j].map (Value.int .i64)) (some ⟨wrb.heap.size, 0, none⟩) 1 1 rfl rfl (one_ints [j]) ?hO ?hD ?len ?go) | fail)
            case hO => exact Has.row K0.out (by simp [intA])
            case hD => exact Has.row K0.out (by simp [intA])
            case len => decide
            case go =>
              intro v1 wrbb hrow hg hat
              have K1 := Has.grow (L1 := [intA (.slice (some ⟨wrb.heap.size, 0, none⟩) 1 1) [j]]) (L2 := [tp g2 pb2 pc2 s (own1 ws), pp pb2 pc2 b, tA g1 pb1 pc1 a b s ws, pA pb1 pc1 a b]) (v := .slice Awr 1 cwr) K0.out hg hrow (hat.imp id (fun h => by simpa using h))
              replace K1 := (intA_app v1 [j] [j]) ▸ K1
              obtain ⟨Awrb, cwrb, rfl, hcwrb⟩ := LRow.slice hrow
              clear hrow hg hat K0
              have hpk : picks (s : Int) a j = [j] ++ [j] := by unfold picks; rw [if_pos hsa]; rfl
              have hpl : (picks (s : Int) a j).length = 2 := by rw [hpk]; rfl
              have K2 : Has w wrbb (intA (.slice Awrb 2 cwrb) (picks s a j) :: [tp g2 pb2 pc2 s (own1 ws), pp pb2 pc2 b, tA g1 pb1 pc1 a b s ws, pA pb1 pc1 a b]) := by rw [hpk]; exact K1.sub ((List.Sublist.refl _).cons _)
              obtain ⟨_, hrow, _⟩ := K2.get (a := intA (.slice Awrb 2 cwrb) (picks s a j)) (by simp)
              rw [← hpl] at hrow
              have hpa := pk_at hrow
              have N3 := Lib.hid (tickA (j := j) (L1 := [intA (.slice Awrb 2 cwrb) (picks s a j), tp g2 pb2 pc2 s (own1 ws), pp pb2 pc2 b]) (L2 := [pA pb1 pc1 a b]) K2 (by simp) HK.out hgd1.out (by omega) hpl hpa)
              clear hpa hrow K1 K2 hpk KB
              replace hpl := Lib.hid hpl
              go_wp2_with fail
              refine N3.out.mono ?_
              rintro e w3 ⟨A1, k1, hk1, rfl, H3⟩
              have N4 := tickB (j := j) (W := (w3.alloc (.cells #[.int .i64 j] 3))) (L1 := [dueA (.slice A1 (dA s a b j ws).length k1) (dA s a b j ws), intA (.slice Awrb 2 cwrb) (picks s a j)]) (L2 := [pp pb2 pc2 b, tA g1 pb1 pc1 a b (s + 1) (lA s a b j ws), pA pb1 pc1 a b]) (H3.step ((Below.refl _ _).alloc (Nat.le_refl _) (.cells #[.int .i64 j] 3))) (by simp) HK.out hgd1.out hgd2.out (by omega) (pk_row w3 [j])
              obtain ⟨hn1, hn2, hl1, hl2⟩ := next_good (j := j) HK.out hgd1.out hgd2.out (show s ≤ 1000 by omega)
              clear H3 N3
              generalize dA s a b j ws = D1 at *
              generalize lA s a b j ws = wn at *
              replace N4 := Lib.hid N4
              replace hn1 := Lib.hid hn1
              replace hn2 := Lib.hid hn2
              clear hcell2 hcell
              go_wp2_with fail
              refine N4.out.mono ?_
              rintro e w4 ⟨A2, k2, hk2, rfl, H4⟩
              have H5 := Lib.hid (H4.sub (M := [dueA (.slice A2 (due1 D1).length k2) (due1 D1), dueA (.slice A1 D1.length k1) D1, tp g2 pb2 pc2 (s + 1) (own1 wn), pp pb2 pc2 b, tA g1 pb1 pc1 a b (s + 1) wn, pA pb1 pc1 a b]) (.cons_cons _ (.cons_cons _ (.cons _ (List.Sublist.refl _)))))
              clear H4 N4
              go_wp2_with fail
              have hs3 := Lib.hid hsn
              replace hk1 := Lib.hid hk1
              replace hk2 := Lib.hid hk2
              have hlen3 := Lib.hid hlen
              have hl1' := Lib.hid hl1
              have hl2' := Lib.hid hl2
              clear hs hsm hwj hj
              go_loopw [16, 17] (fun vk vi w5 => AloneIn w [dueA (.slice A2 (due1 D1).length k2) (due1 D1), dueA (.slice A1 D1.length k1) D1, tp g2 pb2 pc2 (s + 1) (own1 wn), pp pb2 pc2 b, tA g1 pb1 pc1 a b (s + 1) wn, pA pb1 pc1 a b] D1 vk vi w5) (fun _ vi _ => D1.length - (intOf vi).toNat)
              case atStart => exact ⟨0, Nat.zero_le _, rfl, rfl, H5.out⟩
              case round =>
                obtain ⟨i, hi, rfl, rfl, H6⟩ := hrel
                replace H6 := Lib.hid H6
                clear H5
                have hce := cnt_end D1
                by_cases hin : i < D1.length
                · have hin' : (i : Int) < (D1.length : Int) := Int.ofNat_lt.2 hin
                  have hi5 : i < 100000 := Nat.lt_of_lt_of_le hin hl1
                  obtain ⟨p1, p2⟩ := cnt_step D1 i hin
                  have tk1 : decide (D1.length ≤ i) = false := decide_eq_false (Nat.not_le.2 hin)
                  obtain ⟨b1, rfl, x0, x1⟩ := due_cells (A := A1) (c := k1) H6.out (by simp) i _ (get_z D1 i hin)
                  have hin3 := Lib.hid hin
                  clear hce hi
                  generalize D1.getD i z48 = z at *
                  by_cases hz : z.f0 = 1
                  · rw [if_pos hz] at p1
                    have hy := p2 hz
                    have hz0 := Lib.hid hz
                    rw [hz] at x0
                    clear p2 hz
                    have hkl : cnt D1 i < (due1 D1).length := (List.getElem?_eq_some_iff.1 hy).1
                    obtain ⟨b2, rfl, y0, y1⟩ := due_cells (A := A2) (c := k2) H6.out (by simp) (cnt D1 i) _ hy
                    replace hy := Lib.hid hy
                    have hk5 : cnt D1 i < 100000 := Nat.lt_of_lt_of_le hkl hl2
                    replace p1 := Lib.hid p1
                    generalize hkk : cnt D1 i = k at *
                    generalize hll : (due1 D1).length = m2 at *
                    have hkl' : (k : Int) < (m2 : Int) := Int.ofNat_lt.2 hkl
                    have tkc : decide ((m2 : Int) ≤ (k : Int)) = false := decide_eq_false (Int.not_le.2 hkl')
                    have tk2 : decide (m2 ≤ k) = false := decide_eq_false (Nat.not_le.2 hkl)
                    replace hkk := Lib.hid hkk
                    replace hll := Lib.hid hll
                    clear hkl
                    go_wp2_with fail
                    refine start_ (n := 25) (S := fun w' => w'.cell? ⟨b2, k * 2 + 1, none⟩ = some (.int .i64 z.f1) ∧ w'.cell? ⟨b1, i * 2 + 1, none⟩ = some (.int .i64 z.f1) ∧ w'.cell? ⟨b2, k * 2, none⟩ = some (.int .i64 0)) (ds := []) #[false, false, false, false, false, false, false, false, false, false, false, false, false, false, false, false, false, false, false, false, false, false, false, false, false] (by kernel_rfl) rfl rfl ⟨y1, x1, y0⟩ (fun hHeld => ?_)
                    refine pure_ (i := 0) (N := some 96) (v := ?_) (a' := ?_) #[true, false, false, false, false, false, false, false, false, false, false, false, false, false, false, false, false, false, false, false, false, false, false, false, false] rfl rfl (by kernel_rfl) (fun _ _ _ h => h) (Or.inl ⟨by rfl, ?_⟩) ?_ ?_
                    rotate_left
                    · intro w'
                      go_simp
                      first | with_reducible rfl | rfl
                    rotate_left
                    · simp only [Act.put, List.setIfInBounds_toArray, List.set_cons_zero, List.set_cons_succ, i64_w, i32_w]
                      rfl
                    refine pure_ (i := 1) (N := some 97) (v := ?_) (a' := ?_) #[true, true, false, false, false, false, false, false, false, false, false, false, false, false, false, false, false, false, false, false, false, false, false, false, false] rfl rfl (by kernel_rfl) (fun _ _ _ h => h) (Or.inl ⟨by rfl, ?_⟩) ?_ ?_
                    rotate_left
                    · intro w'
                      go_simp
                      first | with_reducible rfl | rfl
                    rotate_left
                    · simp only [Act.put, List.setIfInBounds_toArray, List.set_cons_zero, List.set_cons_succ, i64_w, i32_w]
                      rfl
                    refine pure_ (i := 2) (N := some 98) (v := ?_) (a' := ?_) #[true, true, true, false, false, false, false, false, false, false, false, false, false, false, false, false, false, false, false, false, false, false, false, false, false] rfl rfl (by kernel_rfl) (fun _ _ _ h => h) (Or.inl ⟨by rfl, ?_⟩) ?_ ?_
                    rotate_left
                    · intro w'
                      go_simp
                      first | with_reducible rfl | rfl
                    rotate_left
                    · simp only [Act.put, List.setIfInBounds_toArray, List.set_cons_zero, List.set_cons_succ, i64_w, i32_w]
                      rfl
                    refine pure_ (i := 3) (N := some 99) (v := (.bool false)) (a' := ?_) #[true, true, true, true, false, false, false, false, false, false, false, false, false, false, false, false, false, false, false, false, false, false, false, false, false] rfl rfl (by kernel_rfl) (fun _ _ _ h => h) (Or.inl ⟨by rfl, ?_⟩) ?_ ?_
                    · intro w'
                      go_simp
                      done
                    rotate_left
                    · simp only [Act.put, List.setIfInBounds_toArray, List.set_cons_zero, List.set_cons_succ, i64_w, i32_w]
                      rfl
                    refine pure_ (i := 4) (N := some 100) (v := ?_) (a' := ?_) #[true, true, true, true, true, false, false, false, false, false, false, false, false, false, false, false, false, false, false, false, false, false, false, false, false] rfl rfl (by kernel_rfl) (fun _ _ _ h => h) (Or.inl ⟨by rfl, ?_⟩) ?_ ?_
                    rotate_left
                    · intro w'
                      go_simp
                      first | with_reducible rfl | rfl
                    rotate_left
                    · simp only [Act.put, List.setIfInBounds_toArray, List.set_cons_zero, List.set_cons_succ, i64_w, i32_w]
                      rfl
                    refine pure_ (i := 5) (N := some 101) (v := ?_) (a' := ?_) #[true, true, true, true, true, true, false, false, false, false, false, false, false, false, false, false, false, false, false, false, false, false, false, false, false] rfl rfl (by kernel_rfl) (fun _ _ _ h => h) (Or.inl ⟨by rfl, ?_⟩) ?_ ?_
                    rotate_left
                    · intro w'
                      go_simp
                      first | with_reducible rfl | rfl
                    rotate_left
                    · simp only [Act.put, List.setIfInBounds_toArray, List.set_cons_zero, List.set_cons_succ, i64_w, i32_w]
                      rfl
                    refine pure_ (i := 6) (N := some 102) (v := ?_) (a' := ?_) #[true, true, true, true, true, true, true, false, false, false, false, false, false, false, false, false, false, false, false, false, false, false, false, false, false] rfl rfl (by kernel_rfl) (fun _ _ _ h => h) (Or.inl ⟨by rfl, ?_⟩) ?_ ?_
                    rotate_left
                    · intro w'
                      go_simp
                      first | with_reducible rfl | rfl
                    rotate_left
                    · simp only [Act.put, List.setIfInBounds_toArray, List.set_cons_zero, List.set_cons_succ, i64_w, i32_w]
                      rfl
                    refine pure_ (i := 7) (N := some 103) (v := ?_) (a' := ?_) #[true, true, true, true, true, true, true, true, false, false, false, false, false, false, false, false, false, false, false, false, false, false, false, false, false] rfl rfl (by kernel_rfl) (fun _ _ _ h => h) (Or.inl ⟨by rfl, ?_⟩) ?_ ?_
                    rotate_left
                    · intro w'
                      go_simp
                      first | with_reducible rfl | rfl
                    rotate_left
                    · simp only [Act.put, List.setIfInBounds_toArray, List.set_cons_zero, List.set_cons_succ, i64_w, i32_w]
                      rfl
                    refine pure_ (i := 8) (N := some 104) (v := ?_) (a' := ?_) #[true, true, true, true, true, true, true, true, true, false, false, false, false, false, false, false, false, false, false, false, false, false, false, false, false] rfl rfl (by kernel_rfl) (fun _ _ _ h => h) (Or.inl ⟨by rfl, ?_⟩) ?_ ?_
                    rotate_left
                    · intro w'
                      go_simp
                      first | with_reducible rfl | rfl
                    rotate_left
                    · simp only [Act.put, List.setIfInBounds_toArray, List.set_cons_zero, List.set_cons_succ, i64_w, i32_w]
                      rfl
                    refine take_ (i := 9) (N := some 105) (v := ?_) (a' := ?_) #[true, true, true, true, true, true, true, true, true, true, false, false, false, false, false, false, false, false, false, false, false, false, false, false, false] rfl rfl (by kernel_rfl) (fun _ _ _ h => h) (Or.inl ⟨by rfl, ?_⟩) hHeld ?_ ?_
                    rotate_left
                    · rintro w' ⟨s0, s1, s2⟩
                      go_simp
                      first | with_reducible rfl | rfl
                    rotate_left
                    · simp only [Act.put, List.setIfInBounds_toArray, List.set_cons_zero, List.set_cons_succ, i64_w, i32_w]
                      rfl
                    refine pure_ (i := 10) (N := some 106) (v := ?_) (a' := ?_) #[true, true, true, true, true, true, true, true, true, true, true, false, false, false, false, false, false, false, false, false, false, false, false, false, false] rfl rfl (by kernel_rfl) (fun _ _ _ h => h) (Or.inl ⟨by rfl, ?_⟩) ?_ ?_
                    rotate_left
                    · intro w'
                      go_simp
                      first | with_reducible rfl | rfl
                    rotate_left
                    · simp only [Act.put, List.setIfInBounds_toArray, List.set_cons_zero, List.set_cons_succ, i64_w, i32_w]
                      rfl
                    refine pure_ (i := 11) (N := some 107) (v := ?_) (a' := ?_) #[true, true, true, true, true, true, true, true, true, true, true, true, false, false, false, false, false, false, false, false, false, false, false, false, false] rfl rfl (by kernel_rfl) (fun _ _ _ h => h) (Or.inl ⟨by rfl, ?_⟩) ?_ ?_
                    rotate_left
                    · intro w'
                      go_simp
                      first | with_reducible rfl | rfl
                    rotate_left
                    · simp only [Act.put, List.setIfInBounds_toArray, List.set_cons_zero, List.set_cons_succ, i64_w, i32_w]
                      rfl
                    refine pure_ (i := 12) (N := some 108) (v := ?_) (a' := ?_) #[true, true, true, true, true, true, true, true, true, true, true, true, true, false, false, false, false, false, false, false, false, false, false, false, false] rfl rfl (by kernel_rfl) (fun _ _ _ h => h) (Or.inl ⟨by rfl, ?_⟩) ?_ ?_
                    rotate_left
                    · intro w'
                      go_simp
                      first | with_reducible rfl | rfl
                    rotate_left
                    · simp only [Act.put, List.setIfInBounds_toArray, List.set_cons_zero, List.set_cons_succ, i64_w, i32_w]
                      rfl
                    refine pure_ (i := 13) (N := some 109) (v := ?_) (a' := ?_) #[true, true, true, true, true, true, true, true, true, true, true, true, true, true, false, false, false, false, false, false, false, false, false, false, false] rfl rfl (by kernel_rfl) (fun _ _ _ h => h) (Or.inl ⟨by rfl, ?_⟩) ?_ ?_
                    rotate_left
                    · intro w'
                      go_simp
                      first | with_reducible rfl | rfl
                    rotate_left
                    · simp only [Act.put, List.setIfInBounds_toArray, List.set_cons_zero, List.set_cons_succ, i64_w, i32_w]
                      rfl
                    refine take_ (i := 14) (N := some 110) (v := ?_) (a' := ?_) #[true, true, true, true, true, true, true, true, true, true, true, true, true, true, true, false, false, false, false, false, false, false, false, false, false] rfl rfl (by kernel_rfl) (fun _ _ _ h => h) (Or.inl ⟨by rfl, ?_⟩) hHeld ?_ ?_
                    rotate_left
                    · rintro w' ⟨s0, s1, s2⟩
                      go_simp
                      first | with_reducible rfl | rfl
                    rotate_left
                    · simp only [Act.put, List.setIfInBounds_toArray, List.set_cons_zero, List.set_cons_succ, i64_w, i32_w]
                      rfl
                    refine pure_ (i := 15) (N := some 111) (v := ?_) (a' := ?_) #[true, true, true, true, true, true, true, true, true, true, true, true, true, true, true, true, false, false, false, false, false, false, false, false, false] rfl rfl (by kernel_rfl) (fun _ _ _ h => h) (Or.inl ⟨by rfl, ?_⟩) ?_ ?_
                    rotate_left
                    · intro w'
                      go_simp
                      first | with_reducible rfl | rfl
                    rotate_left
                    · simp only [Act.put, List.setIfInBounds_toArray, List.set_cons_zero, List.set_cons_succ, i64_w, i32_w]
                      rfl
                    refine pure_ (i := 16) (N := some 112) (v := ?_) (a' := ?_) #[true, true, true, true, true, true, true, true, true, true, true, true, true, true, true, true, true, false, false, false, false, false, false, false, false] rfl rfl (by kernel_rfl) (fun _ _ _ h => h) (Or.inl ⟨by rfl, ?_⟩) ?_ ?_
                    rotate_left
                    · intro w'
                      go_simp
                      first | with_reducible rfl | rfl
                    rotate_left
                    · simp only [Act.put, List.setIfInBounds_toArray, List.set_cons_zero, List.set_cons_succ, i64_w, i32_w]
                      rfl
                    refine pure_ (i := 17) (N := some 113) (v := ?_) (a' := ?_) #[true, true, true, true, true, true, true, true, true, true, true, true, true, true, true, true, true, true, false, false, false, false, false, false, false] rfl rfl (by kernel_rfl) (fun _ _ _ h => h) (Or.inl ⟨by rfl, ?_⟩) ?_ ?_
                    rotate_left
                    · intro w'
                      go_simp
                      first | with_reducible rfl | rfl
                    rotate_left
                    · simp only [Act.put, List.setIfInBounds_toArray, List.set_cons_zero, List.set_cons_succ, i64_w, i32_w]
                      rfl
                    refine pure_ (i := 18) (N := some 114) (v := ?_) (a' := ?_) #[true, true, true, true, true, true, true, true, true, true, true, true, true, true, true, true, true, true, true, false, false, false, false, false, false] rfl rfl (by kernel_rfl) (fun _ _ _ h => h) (Or.inl ⟨by rfl, ?_⟩) ?_ ?_
                    rotate_left
                    · intro w'
                      go_simp
                      first | with_reducible rfl | rfl
                    rotate_left
                    · simp only [Act.put, List.setIfInBounds_toArray, List.set_cons_zero, List.set_cons_succ, i64_w, i32_w]
                      rfl
                    refine pure_ (i := 19) (N := some 115) (v := ?_) (a' := ?_) #[true, true, true, true, true, true, true, true, true, true, true, true, true, true, true, true, true, true, true, true, false, false, false, false, false] rfl rfl (by kernel_rfl) (fun _ _ _ h => h) (Or.inl ⟨by rfl, ?_⟩) ?_ ?_
                    rotate_left
                    · intro w'
                      go_simp
                      first | with_reducible rfl | rfl
                    rotate_left
                    · simp only [Act.put, List.setIfInBounds_toArray, List.set_cons_zero, List.set_cons_succ, i64_w, i32_w]
                      rfl
                    refine pure_ (i := 20) (N := some 116) (v := ?_) (a' := ?_) #[true, true, true, true, true, true, true, true, true, true, true, true, true, true, true, true, true, true, true, true, true, false, false, false, false] rfl rfl (by kernel_rfl) (fun _ _ _ h => h) (Or.inl ⟨by rfl, ?_⟩) ?_ ?_
                    rotate_left
                    · intro w'
                      go_simp
                      first | with_reducible rfl | rfl
                    rotate_left
                    · simp only [Act.put, List.setIfInBounds_toArray, List.set_cons_zero, List.set_cons_succ, i64_w, i32_w]
                      rfl
                    refine pure_ (i := 21) (N := some 117) (v := ?_) (a' := ?_) #[true, true, true, true, true, true, true, true, true, true, true, true, true, true, true, true, true, true, true, true, true, true, false, false, false] rfl rfl (by kernel_rfl) (fun _ _ _ h => h) (Or.inl ⟨by rfl, ?_⟩) ?_ ?_
                    rotate_left
                    · intro w'
                      go_simp
                      first | with_reducible rfl | rfl
                    rotate_left
                    · simp only [Act.put, List.setIfInBounds_toArray, List.set_cons_zero, List.set_cons_succ, i64_w, i32_w]
                      rfl
                    refine take_ (i := 22) (N := some 118) (v := ?_) (a' := ?_) #[true, true, true, true, true, true, true, true, true, true, true, true, true, true, true, true, true, true, true, true, true, true, true, false, false] rfl rfl (by kernel_rfl) (fun _ _ _ h => h) (Or.inl ⟨by rfl, ?_⟩) hHeld ?_ ?_
                    rotate_left
                    · rintro w' ⟨s0, s1, s2⟩
                      go_simp
                      first | with_reducible rfl | rfl
                    rotate_left
                    · simp only [Act.put, List.setIfInBounds_toArray, List.set_cons_zero, List.set_cons_succ, i64_w, i32_w]
                      rfl
                    refine pure_ (i := 23) (N := some 119) (v := ?_) (a' := ?_) #[true, true, true, true, true, true, true, true, true, true, true, true, true, true, true, true, true, true, true, true, true, true, true, true, false] rfl rfl (by kernel_rfl) (fun _ _ _ h => h) (Or.inl ⟨by rfl, ?_⟩) ?_ ?_
                    rotate_left
                    · intro w'
                      go_simp
                      first | with_reducible rfl | rfl
                    rotate_left
                    · simp only [Act.put, List.setIfInBounds_toArray, List.set_cons_zero, List.set_cons_succ, i64_w, i32_w]
                      rfl
                    refine pure_ (i := 24) (N := some 120) (v := ?_) (a' := ?_) #[true, true, true, true, true, true, true, true, true, true, true, true, true, true, true, true, true, true, true, true, true, true, true, true, true] rfl rfl (by kernel_rfl) (fun _ _ _ h => h) (Or.inl ⟨by rfl, ?_⟩) ?_ ?_
                    rotate_left
                    · intro w'
                      go_simp
                      first | with_reducible rfl | rfl
                    rotate_left
                    · simp only [Act.put, List.setIfInBounds_toArray, List.set_cons_zero, List.set_cons_succ, i64_w, i32_w]
                      rfl
                    refine done_ (by kernel_rfl) ?_
                    go_wp2_with fail
                    go_roundw
                    case rel => exact ⟨i + 1, hin3.out, by go_num, by rw [p1.out]; go_num, H6.out.step (Below.refl _ _).drew⟩
                    case measure => clear tkc tk1 tk2; have := hin3.out; simp [intOf]; omega
                  · rw [if_neg hz, Nat.add_zero] at p1
                    have t3 : (z.f0 == 1) = false := beq_eq_false_iff_ne.mpr hz
                    replace p1 := Lib.hid p1
                    clear p2
                    replace hz := Lib.hid hz
                    go_wp2_with fail
                    go_roundw
                    case rel => exact ⟨i + 1, hin3.out, by go_num, by rw [p1.out]; rfl, H6.out⟩
                    case measure => clear tk1; have := hin3.out; simp [intOf]; omega
                · have e0 : ¬ ((i : Int) < (D1.length : Int)) := fun h => hin (Int.ofNat_lt.1 h)
                  obtain rfl : i = D1.length := by omega
                  rw [hce]
                  clear hi hce
                  have H7 := Lib.hid (H6.out.sub (.cons _ (.cons _ (List.Sublist.refl _))))
                  go_wp2_with fail
                  have hA := hs3.out
                  have hB := hlen3.out
                  exact ⟨⟨s + 1, wn, hA, hB, by go_num, hn1.out, hn2.out, H7.out⟩, by simp [intOf]; omega⟩
        · have t2 : ((s : Int) % a == 0) = false := by simp [hsa]
          have K0 := Lib.hid (Has.ints KB.out [j] (by simp))
          go_wp2_with (first | (at_builtin; refine wpList_append_row _ rfl (.tmp 73) (.tmp 75) 22 3 _ 1 8 rfl Try.underlying22 info3 rfl (by decide) (by decide) (.slice none 0 0) 0 (([] : List Int).map (Value.int .i64)) ([j].map (Value.int .i64)) (some ⟨wr.heap.size, 0, none⟩) 1 1 rfl rfl (one_ints [j]) ?hO ?hD ?len ?go) | fail)
          case hO => exact Has.row K0.out (by simp [intA])
          case hD => exact Has.row K0.out (by simp [intA])
          case len => decide
          case go =>
            intro v1 wrb hrow hg hat
            have K1 := Has.grow (L1 := [intA (.slice (some ⟨wr.heap.size, 0, none⟩) 1 1) [j]]) (L2 := [tp g2 pb2 pc2 s (own1 ws), pp pb2 pc2 b, tA g1 pb1 pc1 a b s ws, pA pb1 pc1 a b]) (v := .slice none 0 0) K0.out hg hrow (hat.imp id (fun h => by simpa using h))
            replace K1 := (intA_app v1 ([] : List Int) [j]) ▸ K1
            obtain ⟨Awr, cwr, rfl, hcwr⟩ := LRow.slice hrow
            clear hrow hg hat K0
            have hpk : picks (s : Int) a j = [] ++ [j] := by unfold picks; rw [if_neg hsa]; rfl
            have hpl : (picks (s : Int) a j).length = 1 := by rw [hpk]; rfl
            have K2 : Has w wrb (intA (.slice Awr 1 cwr) (picks s a j) :: [tp g2 pb2 pc2 s (own1 ws), pp pb2 pc2 b, tA g1 pb1 pc1 a b s ws, pA pb1 pc1 a b]) := by rw [hpk]; exact K1.sub ((List.Sublist.refl _).cons _)
            obtain ⟨_, hrow, _⟩ := K2.get (a := intA (.slice Awr 1 cwr) (picks s a j)) (by simp)
            rw [← hpl] at hrow
            have hpa := pk_at hrow
            have N3 := Lib.hid (tickA (j := j) (L1 := [intA (.slice Awr 1 cwr) (picks s a j), tp g2 pb2 pc2 s (own1 ws), pp pb2 pc2 b]) (L2 := [pA pb1 pc1 a b]) K2 (by simp) HK.out hgd1.out (by omega) hpl hpa)
            clear hpa hrow K1 K2 hpk KB
            replace hpl := Lib.hid hpl
            go_wp2_with fail
            refine N3.out.mono ?_
            rintro e w3 ⟨A1, k1, hk1, rfl, H3⟩
            have N4 := tickB (j := j) (W := (w3.alloc (.cells #[.int .i64 j] 3))) (L1 := [dueA (.slice A1 (dA s a b j ws).length k1) (dA s a b j ws), intA (.slice Awr 1 cwr) (picks s a j)]) (L2 := [pp pb2 pc2 b, tA g1 pb1 pc1 a b (s + 1) (lA s a b j ws), pA pb1 pc1 a b]) (H3.step ((Below.refl _ _).alloc (Nat.le_refl _) (.cells #[.int .i64 j] 3))) (by simp) HK.out hgd1.out hgd2.out (by omega) (pk_row w3 [j])
            obtain ⟨hn1, hn2, hl1, hl2⟩ := next_good (j := j) HK.out hgd1.out hgd2.out (show s ≤ 1000 by omega)
            clear H3 N3
            generalize dA s a b j ws = D1 at *
            generalize lA s a b j ws = wn at *
            replace N4 := Lib.hid N4
            replace hn1 := Lib.hid hn1
            replace hn2 := Lib.hid hn2
            clear hcell2 hcell
            go_wp2_with fail
            refine N4.out.mono ?_
            rintro e w4 ⟨A2, k2, hk2, rfl, H4⟩
            have H5 := Lib.hid (H4.sub (M := [dueA (.slice A2 (due1 D1).length k2) (due1 D1), dueA (.slice A1 D1.length k1) D1, tp g2 pb2 pc2 (s + 1) (own1 wn), pp pb2 pc2 b, tA g1 pb1 pc1 a b (s + 1) wn, pA pb1 pc1 a b]) (.cons_cons _ (.cons_cons _ (.cons _ (List.Sublist.refl _)))))
            clear H4 N4
            go_wp2_with fail
            have hs3 := Lib.hid hsn
            replace hk1 := Lib.hid hk1
            replace hk2 := Lib.hid hk2
            have hlen3 := Lib.hid hlen
            have hl1' := Lib.hid hl1
            have hl2' := Lib.hid hl2
            clear hs hsm hwj hj
            go_loopw [16, 17] (fun vk vi w5 => AloneIn w [dueA (.slice A2 (due1 D1).length k2) (due1 D1), dueA (.slice A1 D1.length k1) D1, tp g2 pb2 pc2 (s + 1) (own1 wn), pp pb2 pc2 b, tA g1 pb1 pc1 a b (s + 1) wn, pA pb1 pc1 a b] D1 vk vi w5) (fun _ vi _ => D1.length - (intOf vi).toNat)
            case atStart => exact ⟨0, Nat.zero_le _, rfl, rfl, H5.out⟩
            case round =>
              obtain ⟨i, hi, rfl, rfl, H6⟩ := hrel
              replace H6 := Lib.hid H6
              clear H5
              have hce := cnt_end D1
              by_cases hin : i < D1.length
              · have hin' : (i : Int) < (D1.length : Int) := Int.ofNat_lt.2 hin
                have hi5 : i < 100000 := Nat.lt_of_lt_of_le hin hl1
                obtain ⟨p1, p2⟩ := cnt_step D1 i hin
                have tk1 : decide (D1.length ≤ i) = false := decide_eq_false (Nat.not_le.2 hin)
                obtain ⟨b1, rfl, x0, x1⟩ := due_cells (A := A1) (c := k1) H6.out (by simp) i _ (get_z D1 i hin)
                have hin3 := Lib.hid hin
                clear hce hi
                generalize D1.getD i z48 = z at *
                by_cases hz : z.f0 = 1
                · rw [if_pos hz] at p1
                  have hy := p2 hz
                  have hz0 := Lib.hid hz
                  rw [hz] at x0
                  clear p2 hz
                  have hkl : cnt D1 i < (due1 D1).length := (List.getElem?_eq_some_iff.1 hy).1
                  obtain ⟨b2, rfl, y0, y1⟩ := due_cells (A := A2) (c := k2) H6.out (by simp) (cnt D1 i) _ hy
                  replace hy := Lib.hid hy
                  have hk5 : cnt D1 i < 100000 := Nat.lt_of_lt_of_le hkl hl2
                  replace p1 := Lib.hid p1
                  generalize hkk : cnt D1 i = k at *
                  generalize hll : (due1 D1).length = m2 at *
                  have hkl' : (k : Int) < (m2 : Int) := Int.ofNat_lt.2 hkl
                  have tkc : decide ((m2 : Int) ≤ (k : Int)) = false := decide_eq_false (Int.not_le.2 hkl')
                  have tk2 : decide (m2 ≤ k) = false := decide_eq_false (Nat.not_le.2 hkl)
                  replace hkk := Lib.hid hkk
                  replace hll := Lib.hid hll
                  clear hkl
                  go_wp2_with fail
                  refine start_ (n := 25) (S := fun w' => w'.cell? ⟨b2, k * 2 + 1, none⟩ = some (.int .i64 z.f1) ∧ w'.cell? ⟨b1, i * 2 + 1, none⟩ = some (.int .i64 z.f1) ∧ w'.cell? ⟨b2, k * 2, none⟩ = some (.int .i64 0)) (ds := []) #[false, false, false, false, false, false, false, false, false, false, false, false, false, false, false, false, false, false, false, false, false, false, false, false, false] (by kernel_rfl) rfl rfl ⟨y1, x1, y0⟩ (fun hHeld => ?_)
                  refine pure_ (i := 0) (N := some 96) (v := ?_) (a' := ?_) #[true, false, false, false, false, false, false, false, false, false, false, false, false, false, false, false, false, false, false, false, false, false, false, false, false] rfl rfl (by kernel_rfl) (fun _ _ _ h => h) (Or.inl ⟨by rfl, ?_⟩) ?_ ?_
                  rotate_left
                  · intro w'
                    go_simp
                    first | with_reducible rfl | rfl
                  rotate_left
                  · simp only [Act.put, List.setIfInBounds_toArray, List.set_cons_zero, List.set_cons_succ, i64_w, i32_w]
                    rfl
                  refine pure_ (i := 1) (N := some 97) (v := ?_) (a' := ?_) #[true, true, false, false, false, false, false, false, false, false, false, false, false, false, false, false, false, false, false, false, false, false, false, false, false] rfl rfl (by kernel_rfl) (fun _ _ _ h => h) (Or.inl ⟨by rfl, ?_⟩) ?_ ?_
                  rotate_left
                  · intro w'
                    go_simp
                    first | with_reducible rfl | rfl
                  rotate_left
                  · simp only [Act.put, List.setIfInBounds_toArray, List.set_cons_zero, List.set_cons_succ, i64_w, i32_w]
                    rfl
                  refine pure_ (i := 2) (N := some 98) (v := ?_) (a' := ?_) #[true, true, true, false, false, false, false, false, false, false, false, false, false, false, false, false, false, false, false, false, false, false, false, false, false] rfl rfl (by kernel_rfl) (fun _ _ _ h => h) (Or.inl ⟨by rfl, ?_⟩) ?_ ?_
                  rotate_left
                  · intro w'
                    go_simp
                    first | with_reducible rfl | rfl
                  rotate_left
                  · simp only [Act.put, List.setIfInBounds_toArray, List.set_cons_zero, List.set_cons_succ, i64_w, i32_w]
                    rfl
                  refine pure_ (i := 3) (N := some 99) (v := (.bool false)) (a' := ?_) #[true, true, true, true, false, false, false, false, false, false, false, false, false, false, false, false, false, false, false, false, false, false, false, false, false] rfl rfl (by kernel_rfl) (fun _ _ _ h => h) (Or.inl ⟨by rfl, ?_⟩) ?_ ?_
                  · intro w'
                    go_simp
                    done
                  rotate_left
                  · simp only [Act.put, List.setIfInBounds_toArray, List.set_cons_zero, List.set_cons_succ, i64_w, i32_w]
                    rfl
                  refine pure_ (i := 4) (N := some 100) (v := ?_) (a' := ?_) #[true, true, true, true, true, false, false, false, false, false, false, false, false, false, false, false, false, false, false, false, false, false, false, false, false] rfl rfl (by kernel_rfl) (fun _ _ _ h => h) (Or.inl ⟨by rfl, ?_⟩) ?_ ?_
                  rotate_left
                  · intro w'
                    go_simp
                    first | with_reducible rfl | rfl
                  rotate_left
                  · simp only [Act.put, List.setIfInBounds_toArray, List.set_cons_zero, List.set_cons_succ, i64_w, i32_w]
                    rfl
                  refine pure_ (i := 5) (N := some 101) (v := ?_) (a' := ?_) #[true, true, true, true, true, true, false, false, false, false, false, false, false, false, false, false, false, false, false, false, false, false, false, false, false] rfl rfl (by kernel_rfl) (fun _ _ _ h => h) (Or.inl ⟨by rfl, ?_⟩) ?_ ?_
                  rotate_left
                  · intro w'
                    go_simp
                    first | with_reducible rfl | rfl
                  rotate_left
                  · simp only [Act.put, List.setIfInBounds_toArray, List.set_cons_zero, List.set_cons_succ, i64_w, i32_w]
                    rfl
                  refine pure_ (i := 6) (N := some 102) (v := ?_) (a' := ?_) #[true, true, true, true, true, true, true, false, false, false, false, false, false, false, false, false, false, false, false, false, false, false, false, false, false] rfl rfl (by kernel_rfl) (fun _ _ _ h => h) (Or.inl ⟨by rfl, ?_⟩) ?_ ?_
                  rotate_left
                  · intro w'
                    go_simp
                    first | with_reducible rfl | rfl
                  rotate_left
                  · simp only [Act.put, List.setIfInBounds_toArray, List.set_cons_zero, List.set_cons_succ, i64_w, i32_w]
                    rfl
                  refine pure_ (i := 7) (N := some 103) (v := ?_) (a' := ?_) #[true, true, true, true, true, true, true, true, false, false, false, false, false, false, false, false, false, false, false, false, false, false, false, false, false] rfl rfl (by kernel_rfl) (fun _ _ _ h => h) (Or.inl ⟨by rfl, ?_⟩) ?_ ?_
                  rotate_left
                  · intro w'
                    go_simp
                    first | with_reducible rfl | rfl
                  rotate_left
                  · simp only [Act.put, List.setIfInBounds_toArray, List.set_cons_zero, List.set_cons_succ, i64_w, i32_w]
                    rfl
                  refine pure_ (i := 8) (N := some 104) (v := ?_) (a' := ?_) #[true, true, true, true, true, true, true, true, true, false, false, false, false, false, false, false, false, false, false, false, false, false, false, false, false] rfl rfl (by kernel_rfl) (fun _ _ _ h => h) (Or.inl ⟨by rfl, ?_⟩) ?_ ?_
                  rotate_left
                  · intro w'
                    go_simp
                    first | with_reducible rfl | rfl
                  rotate_left
                  · simp only [Act.put, List.setIfInBounds_toArray, List.set_cons_zero, List.set_cons_succ, i64_w, i32_w]
                    rfl
                  refine take_ (i := 9) (N := some 105) (v := ?_) (a' := ?_) #[true, true, true, true, true, true, true, true, true, true, false, false, false, false, false, false, false, false, false, false, false, false, false, false, false] rfl rfl (by kernel_rfl) (fun _ _ _ h => h) (Or.inl ⟨by rfl, ?_⟩) hHeld ?_ ?_
                  rotate_left
                  · rintro w' ⟨s0, s1, s2⟩
                    go_simp
                    first | with_reducible rfl | rfl
                  rotate_left
                  · simp only [Act.put, List.setIfInBounds_toArray, List.set_cons_zero, List.set_cons_succ, i64_w, i32_w]
                    rfl
                  refine pure_ (i := 10) (N := some 106) (v := ?_) (a' := ?_) #[true, true, true, true, true, true, true, true, true, true, true, false, false, false, false, false, false, false, false, false, false, false, false, false, false] rfl rfl (by kernel_rfl) (fun _ _ _ h => h) (Or.inl ⟨by rfl, ?_⟩) ?_ ?_
                  rotate_left
                  · intro w'
                    go_simp
                    first | with_reducible rfl | rfl
                  rotate_left
                  · simp only [Act.put, List.setIfInBounds_toArray, List.set_cons_zero, List.set_cons_succ, i64_w, i32_w]
                    rfl
                  refine pure_ (i := 11) (N := some 107) (v := ?_) (a' := ?_) #[true, true, true, true, true, true, true, true, true, true, true, true, false, false, false, false, false, false, false, false, false, false, false, false, false] rfl rfl (by kernel_rfl) (fun _ _ _ h => h) (Or.inl ⟨by rfl, ?_⟩) ?_ ?_
                  rotate_left
                  · intro w'
                    go_simp
                    first | with_reducible rfl | rfl
                  rotate_left
                  · simp only [Act.put, List.setIfInBounds_toArray, List.set_cons_zero, List.set_cons_succ, i64_w, i32_w]
                    rfl
                  refine pure_ (i := 12) (N := some 108) (v := ?_) (a' := ?_) #[true, true, true, true, true, true, true, true, true, true, true, true, true, false, false, false, false, false, false, false, false, false, false, false, false] rfl rfl (by kernel_rfl) (fun _ _ _ h => h) (Or.inl ⟨by rfl, ?_⟩) ?_ ?_
                  rotate_left
                  · intro w'
                    go_simp
                    first | with_reducible rfl | rfl
                  rotate_left
                  · simp only [Act.put, List.setIfInBounds_toArray, List.set_cons_zero, List.set_cons_succ, i64_w, i32_w]
                    rfl
                  refine pure_ (i := 13) (N := some 109) (v := ?_) (a' := ?_) #[true, true, true, true, true, true, true, true, true, true, true, true, true, true, false, false, false, false, false, false, false, false, false, false, false] rfl rfl (by kernel_rfl) (fun _ _ _ h => h) (Or.inl ⟨by rfl, ?_⟩) ?_ ?_
                  rotate_left
                  · intro w'
                    go_simp
                    first | with_reducible rfl | rfl
                  rotate_left
                  · simp only [Act.put, List.setIfInBounds_toArray, List.set_cons_zero, List.set_cons_succ, i64_w, i32_w]
                    rfl
                  refine take_ (i := 14) (N := some 110) (v := ?_) (a' := ?_) #[true, true, true, true, true, true, true, true, true, true, true, true, true, true, true, false, false, false, false, false, false, false, false, false, false] rfl rfl (by kernel_rfl) (fun _ _ _ h => h) (Or.inl ⟨by rfl, ?_⟩) hHeld ?_ ?_
                  rotate_left
                  · rintro w' ⟨s0, s1, s2⟩
                    go_simp
                    first | with_reducible rfl | rfl
                  rotate_left
                  · simp only [Act.put, List.setIfInBounds_toArray, List.set_cons_zero, List.set_cons_succ, i64_w, i32_w]
                    rfl
                  refine pure_ (i := 15) (N := some 111) (v := ?_) (a' := ?_) #[true, true, true, true, true, true, true, true, true, true, true, true, true, true, true, true, false, false, false, false, false, false, false, false, false] rfl rfl (by kernel_rfl) (fun _ _ _ h => h) (Or.inl ⟨by rfl, ?_⟩) ?_ ?_
                  rotate_left
                  · intro w'
                    go_simp
                    first | with_reducible rfl | rfl
                  rotate_left
                  · simp only [Act.put, List.setIfInBounds_toArray, List.set_cons_zero, List.set_cons_succ, i64_w, i32_w]
                    rfl
                  refine pure_ (i := 16) (N := some 112) (v := ?_) (a' := ?_) #[true, true, true, true, true, true, true, true, true, true, true, true, true, true, true, true, true, false, false, false, false, false, false, false, false] rfl rfl (by kernel_rfl) (fun _ _ _ h => h) (Or.inl ⟨by rfl, ?_⟩) ?_ ?_
                  rotate_left
                  · intro w'
                    go_simp
                    first | with_reducible rfl | rfl
                  rotate_left
                  · simp only [Act.put, List.setIfInBounds_toArray, List.set_cons_zero, List.set_cons_succ, i64_w, i32_w]
                    rfl
                  refine pure_ (i := 17) (N := some 113) (v := ?_) (a' := ?_) #[true, true, true, true, true, true, true, true, true, true, true, true, true, true, true, true, true, true, false, false, false, false, false, false, false] rfl rfl (by kernel_rfl) (fun _ _ _ h => h) (Or.inl ⟨by rfl, ?_⟩) ?_ ?_
                  rotate_left
                  · intro w'
                    go_simp
                    first | with_reducible rfl | rfl
                  rotate_left
                  · simp only [Act.put, List.setIfInBounds_toArray, List.set_cons_zero, List.set_cons_succ, i64_w, i32_w]
                    rfl
                  refine pure_ (i := 18) (N := some 114) (v := ?_) (a' := ?_) #[true, true, true, true, true, true, true, true, true, true, true, true, true, true, true, true, true, true, true, false, false, false, false, false, false] rfl rfl (by kernel_rfl) (fun _ _ _ h => h) (Or.inl ⟨by rfl, ?_⟩) ?_ ?_
                  rotate_left
                  · intro w'
                    go_simp
                    first | with_reducible rfl | rfl
                  rotate_left
                  · simp only [Act.put, List.setIfInBounds_toArray, List.set_cons_zero, List.set_cons_succ, i64_w, i32_w]
                    rfl
                  refine pure_ (i := 19) (N := some 115) (v := ?_) (a' := ?_) #[true, true, true, true, true, true, true, true, true, true, true, true, true, true, true, true, true, true, true, true, false, false, false, false, false] rfl rfl (by kernel_rfl) (fun _ _ _ h => h) (Or.inl ⟨by rfl, ?_⟩) ?_ ?_
                  rotate_left
                  · intro w'
                    go_simp
                    first | with_reducible rfl | rfl
                  rotate_left
                  · simp only [Act.put, List.setIfInBounds_toArray, List.set_cons_zero, List.set_cons_succ, i64_w, i32_w]
                    rfl
                  refine pure_ (i := 20) (N := some 116) (v := ?_) (a' := ?_) #[true, true, true, true, true, true, true, true, true, true, true, true, true, true, true, true, true, true, true, true, true, false, false, false, false] rfl rfl (by kernel_rfl) (fun _ _ _ h => h) (Or.inl ⟨by rfl, ?_⟩) ?_ ?_
                  rotate_left
                  · intro w'
                    go_simp
                    first | with_reducible rfl | rfl
                  rotate_left
                  · simp only [Act.put, List.setIfInBounds_toArray, List.set_cons_zero, List.set_cons_succ, i64_w, i32_w]
                    rfl
                  refine pure_ (i := 21) (N := some 117) (v := ?_) (a' := ?_) #[true, true, true, true, true, true, true, true, true, true, true, true, true, true, true, true, true, true, true, true, true, true, false, false, false] rfl rfl (by kernel_rfl) (fun _ _ _ h => h) (Or.inl ⟨by rfl, ?_⟩) ?_ ?_
                  rotate_left
                  · intro w'
                    go_simp
                    first | with_reducible rfl | rfl
                  rotate_left
                  · simp only [Act.put, List.setIfInBounds_toArray, List.set_cons_zero, List.set_cons_succ, i64_w, i32_w]
                    rfl
                  refine take_ (i := 22) (N := some 118) (v := ?_) (a' := ?_) #[true, true, true, true, true, true, true, true, true, true, true, true, true, true, true, true, true, true, true, true, true, true, true, false, false] rfl rfl (by kernel_rfl) (fun _ _ _ h => h) (Or.inl ⟨by rfl, ?_⟩) hHeld ?_ ?_
                  rotate_left
                  · rintro w' ⟨s0, s1, s2⟩
                    go_simp
                    first | with_reducible rfl | rfl
                  rotate_left
                  · simp only [Act.put, List.setIfInBounds_toArray, List.set_cons_zero, List.set_cons_succ, i64_w, i32_w]
                    rfl
                  refine pure_ (i := 23) (N := some 119) (v := ?_) (a' := ?_) #[true, true, true, true, true, true, true, true, true, true, true, true, true, true, true, true, true, true, true, true, true, true, true, true, false] rfl rfl (by kernel_rfl) (fun _ _ _ h => h) (Or.inl ⟨by rfl, ?_⟩) ?_ ?_
                  rotate_left
                  · intro w'
                    go_simp
                    first | with_reducible rfl | rfl
                  rotate_left
                  · simp only [Act.put, List.setIfInBounds_toArray, List.set_cons_zero, List.set_cons_succ, i64_w, i32_w]
                    rfl
                  refine pure_ (i := 24) (N := some 120) (v := ?_) (a' := ?_) #[true, true, true, true, true, true, true, true, true, true, true, true, true, true, true, true, true, true, true, true, true, true, true, true, true] rfl rfl (by kernel_rfl) (fun _ _ _ h => h) (Or.inl ⟨by rfl, ?_⟩) ?_ ?_
                  rotate_left
                  · intro w'
                    go_simp
                    first | with_reducible rfl | rfl
                  rotate_left
                  · simp only [Act.put, List.setIfInBounds_toArray, List.set_cons_zero, List.set_cons_succ, i64_w, i32_w]
                    rfl
                  refine done_ (by kernel_rfl) ?_
                  go_wp2_with fail
                  go_roundw
                  case rel => exact ⟨i + 1, hin3.out, by go_num, by rw [p1.out]; go_num, H6.out.step (Below.refl _ _).drew⟩
                  case measure => clear tkc tk1 tk2; have := hin3.out; simp [intOf]; omega
                · rw [if_neg hz, Nat.add_zero] at p1
                  have t3 : (z.f0 == 1) = false := beq_eq_false_iff_ne.mpr hz
                  replace p1 := Lib.hid p1
                  clear p2
                  replace hz := Lib.hid hz
                  go_wp2_with fail
                  go_roundw
                  case rel => exact ⟨i + 1, hin3.out, by go_num, by rw [p1.out]; rfl, H6.out⟩
                  case measure => clear tk1; have := hin3.out; simp [intOf]; omega
              · have e0 : ¬ ((i : Int) < (D1.length : Int)) := fun h => hin (Int.ofNat_lt.1 h)
                obtain rfl : i = D1.length := by omega
                rw [hce]
                clear hi hce
                have H7 := Lib.hid (H6.out.sub (.cons _ (.cons _ (List.Sublist.refl _))))
                go_wp2_with fail
                have hA := hs3.out
                have hB := hlen3.out
                exact ⟨⟨s + 1, wn, hA, hB, by go_num, hn1.out, hn2.out, H7.out⟩, by simp [intOf]; omega⟩
      · have e0 : ¬ ((s : Int) < 200) := by omega
        go_wp2_with fail
        refine (known_walk _).mono ?_
        rintro e wk ⟨rfl, hbk⟩
        have HZ := Lib.hid (HS.out.below.trans (hbk.mono HS.out.size))
        clear hbk
        go_wp2_with fail
        go_ret
        exact ⟨rfl, HZ.out⟩
    · have e0 : ¬ ((s : Int) < (m : Int)) := by omega
      go_wp2_with fail
      refine (known_walk _).mono ?_
      rintro e wk ⟨rfl, hbk⟩
      have HZ := Lib.hid (HS.out.below.trans (hbk.mono HS.out.size))
      clear hbk
      go_wp2_with fail
      go_ret
      exact ⟨rfl, HZ.out⟩
set_option maxRecDepth 100000 in
set_option maxHeartbeats 4000000 in
theorem alone_no1 (a b : Int) (A : Option Addr) (m c : Nat) (w : World) (hok : ¬ PsOk [a, b]) (hb : PsOk [b]) : Calls Try.prog 5 #[.int .i64 a, .int .i64 b, .slice A m c] w fun e w' => e = .returned (.bool true) ∧ Below w.heap.size w w' := by
  have H0 := Lib.hid (Has.empty (Below.refl w.heap.size w))
  have N1 := Lib.hid (newNo (ps := [a, b]) (W := (w.alloc (.cells #[.int .i64 a, .int .i64 b] 3))) (pk_row w [a, b]) hok)
  have H1 := (H0.out.step ((Below.refl _ _).alloc (Nat.le_refl _) (.cells #[.int .i64 a, .int .i64 b] 3))).step (show Below (w.alloc (.cells #[.int .i64 a, .int .i64 b] 3)).heap.size (w.alloc (.cells #[.int .i64 a, .int .i64 b] 3)) ((w.alloc (.cells #[.int .i64 a, .int .i64 b] 3)).alloc (.cells #[.int .i64 b] 3)) from (Below.refl _ _).alloc (Nat.le_refl _) (.cells #[.int .i64 b] 3))
  have N2 := newH (ps := [b]) (W := ((w.alloc (.cells #[.int .i64 a, .int .i64 b] 3)).alloc (.cells #[.int .i64 b] 3))) H1 (pk_row (w.alloc (.cells #[.int .i64 a, .int .i64 b] 3)) [b]) hb
  rw [show (w.alloc (.cells #[.int .i64 a, .int .i64 b] 3)).heap.size = w.heap.size + 1 by simp] at N2
  replace N2 := Lib.hid N2
  replace H1 := Lib.hid H1
  clear hb hok H0
  go_enter Try.func5, Try.ntmps5
  go_wp2_with fail
  refine N1.out.mono ?_
  rintro e w1 ⟨rfl, hw1⟩
  rw [← hw1]
  clear hw1 w1 N1
  go_wp2_with fail
  refine N2.out.mono ?_
  rintro e w2 ⟨g, pb, pc, rfl, H2⟩
  replace H2 := Lib.hid H2
  clear N2 H1
  go_wp2_with fail
  refine (known_walk _).mono ?_
  rintro e wk ⟨rfl, hbk⟩
  have HZ := Lib.hid (H2.out.below.trans (hbk.mono H2.out.size))
  clear hbk
  go_wp2_with fail
  go_ret
  exact ⟨rfl, HZ.out⟩
set_option maxRecDepth 100000 in
set_option maxHeartbeats 4000000 in
theorem alone_no2 (a b : Int) (A : Option Addr) (m c : Nat) (w : World) (hok : ¬ PsOk [a, b]) (hb : ¬ PsOk [b]) : Calls Try.prog 5 #[.int .i64 a, .int .i64 b, .slice A m c] w fun e w' => e = .returned (.bool true) ∧ Below w.heap.size w w' := by
  have H0 := Lib.hid (Has.empty (Below.refl w.heap.size w))
  have N1 := Lib.hid (newNo (ps := [a, b]) (W := (w.alloc (.cells #[.int .i64 a, .int .i64 b] 3))) (pk_row w [a, b]) hok)
  have H1 := (H0.out.step ((Below.refl _ _).alloc (Nat.le_refl _) (.cells #[.int .i64 a, .int .i64 b] 3))).step (show Below (w.alloc (.cells #[.int .i64 a, .int .i64 b] 3)).heap.size (w.alloc (.cells #[.int .i64 a, .int .i64 b] 3)) ((w.alloc (.cells #[.int .i64 a, .int .i64 b] 3)).alloc (.cells #[.int .i64 b] 3)) from (Below.refl _ _).alloc (Nat.le_refl _) (.cells #[.int .i64 b] 3))
  have N2 := newNo (ps := [b]) (W := ((w.alloc (.cells #[.int .i64 a, .int .i64 b] 3)).alloc (.cells #[.int .i64 b] 3))) (pk_row (w.alloc (.cells #[.int .i64 a, .int .i64 b] 3)) [b]) hb
  rw [show (w.alloc (.cells #[.int .i64 a, .int .i64 b] 3)).heap.size = w.heap.size + 1 by simp] at N2
  replace N2 := Lib.hid N2
  replace H1 := Lib.hid H1
  clear hb hok H0
  go_enter Try.func5, Try.ntmps5
  go_wp2_with fail
  refine N1.out.mono ?_
  rintro e w1 ⟨rfl, hw1⟩
  rw [← hw1]
  clear hw1 w1 N1
  go_wp2_with fail
  refine N2.out.mono ?_
  rintro e w2 ⟨rfl, hw2⟩
  rw [← hw2]
  clear hw2 w2 N2
  go_wp2_with fail
  refine (known_walk _).mono ?_
  rintro e wk ⟨rfl, hbk⟩
  have HZ := Lib.hid (H1.out.below.trans (hbk.mono H1.out.size))
  clear hbk
  go_wp2_with fail
  go_ret
  exact ⟨rfl, HZ.out⟩
theorem alone_walk (a b : Int) (A : Option Addr) (m c : Nat) (w : World) (hJ : (m : Int) < 9223372036854775808 ∧ ∀ k, k < m → ∃ ad v, A = some ad ∧ w.cell? (ad.add k) = some (.int .u8 v) ∧ 0 ≤ v ∧ v < 256) : Calls Try.prog 5 #[.int .i64 a, .int .i64 b, .slice A m c] w fun e w' => e = .returned (.bool true) ∧ Below w.heap.size w w' := by
  by_cases hok : PsOk [a, b]
  · exact alone_core a b A m c w hok hJ.1 hJ.2
  · by_cases hb : PsOk [b]
    · exact alone_no1 a b A m c w hok hb
    · exact alone_no2 a b A m c w hok hb
end Go.Proofs.Ytdpfbmhdbnkdaaa.Tm
