/- TimerPlays: what is told and what waits is as the document says. -/
import Derived.Test.YtdpfbmhdbnkdaaaTmRNew
import Derived.Test.YtdpfbmhdbnkdaaaTmCopies
set_option linter.unusedVariables false
set_option linter.unusedSimpArgs false
namespace Go.Proofs.Ytdpfbmhdbnkdaaa.Tm
open Go Go.RowKit Go.Proofs.YtdpfbmhdbnkdaaaW.PrintWords Go.Proofs.YtdpfbmhdbnkdaaaW.PrintLast Go.Proofs.YtdpfbmhdbnkdaaaW.PrintMore Go.Proofs.Ytdpfbmhdbnkdaaa Go.Proofs.Ytdpfbmhdbnkdaaa.Print
attribute [local go_sem] max2_int min2_int max_two min_two
/-- a row of the reference's releases, as it is read -/
theorem pl_dueR {w0 W : World} {L : List Asn} {A : Option Addr} {c : Nat} {l : List S48} (h : Has w0 W L) (hd : dueR (.slice A l.length c) l ∈ L) (hl : l.length ≤ 100000) : PlIs W A c l := by
  obtain ⟨_, ⟨_, hr⟩, _⟩ := h.get hd
  obtain ⟨A', c', hv, hc⟩ := LRow.slice hr
  injection hv with h1 h2 h3
  subst h1 h3
  refine ⟨hc, by rw [List.length_map], by omega, fun h0 => ?_⟩
  rcases id hr.2 with ⟨_, h3⟩ | ⟨b, cap, cur, h3, _⟩
  · omega
  · injection h3 with h3 h4 h5
    subst h3
    refine ⟨_, rfl, fun j p hj => ?_⟩
    rw [List.getElem?_map, Option.map_eq_some_iff] at hj
    obtain ⟨q, hq, rfl⟩ := hj
    refine ⟨[.int .i64 q.f0, .int .i64 q.f1], rfl, k58_mk _ _, fun i u hu => ?_⟩
    have hi : i < 2 := (List.getElem?_eq_some_iff.1 hu).1
    have hc := LRow.cell hr (j * 2 + i) u (by rw [flat_get l j i hi, hq]; exact hu)
    rw [add_plain] at hc
    have e3 : k58.sz = 2 := rfl
    rw [e3, add_plain]
    exact hc
theorem waitE {w0 W : World} {L : List Asn} {g : Nat} {pv : Value} {now : Nat} {ws : List W3} {E : List S48} (h : Has w0 W L) (ht : timA g pv now ws ∈ L) (hs : Sorted ws) (hl : ws.length ≤ 100000) (hE : ws.map W3.due = E) : Calls Try.prog 18 #[.pointer (some ⟨g, 0, none⟩)] W fun e w' => ∃ A' c', E.length ≤ c' ∧ e = .returned (.slice A' E.length c') ∧ Has w0 w' (dueA (.slice A' E.length c') E :: L) := by
  subst hE
  exact waitH h ht hs hl
theorem refWaitE {w0 W : World} {L1 L2 : List Asn} {g : Nat} {pv v : Value} {now : Nat} {l : List W3} {E : List S48} (h : Has w0 W (L1 ++ refA g pv now v l :: L2)) (hl : l.length ≤ 100000) (hE : l.map W3.due = E) : Calls Try.prog 19 #[.pointer (some ⟨g, 0, none⟩)] W fun e w' => ∃ A c, e = .returned (.slice A E.length c) ∧ Has w0 w' (dueR (.slice A E.length c) E :: (L1 ++ refA g pv now v l :: L2)) ∧ Below W.heap.size W w' := by
  subst hE
  rw [List.length_map]
  exact refWait h hl
abbrev PV (pb pc : Nat) (ps : List Int) : Value := .slice (some ⟨pb, 0, none⟩) ps.length pc
def PlRel (w : World) (gr pb pc pb2 pc2 : Nat) (ps : List Int) (n : Nat) (vt vi : Value) (wr : World) : Prop := ∃ (i g : Nat) (ws : List W3) (v : Value), i ≤ n ∧ vi = .int .i64 i ∧ vt = .pointer (some ⟨g, 0, none⟩) ∧ Good ps i ws ∧
  Has w wr (tm g pb pc ps i ws :: pa pb pc ps :: refA gr (.slice (some ⟨pb2, 0, none⟩) ps.length pc2) i v ws :: [intA (.slice (some ⟨pb2, 0, none⟩) ps.length pc2) ps])
theorem told_len3 {ps : List Int} {now : Nat} {ws : List W3} (h : Good ps now ws) (hp : PsOk ps) (qs : List Int) (hn : now ≤ 300) : ((told now (rel now 0 ps qs ws)).map W3.due).length ≤ 100000 := by
  have hm := rel_mid ps now hp.le ps qs 0 ws (by omega) h.mid
  rw [show ((0 : Nat) : Int) = 0 from rfl] at hm
  have h1 : (told now (rel now 0 ps qs ws)).length ≤ (rel now 0 ps qs ws).length := List.length_filter_le _ _
  have := hm.len
  have := hp.le
  rw [List.length_map]
  omega
theorem perm_map_inv {α β : Type} {f : α → β} : ∀ {M : List β} {L' : List α}, (L'.map f).Perm M → ∃ M', L'.Perm M' ∧ M'.map f = M := by
  intro M
  induction M with
  | nil =>
    intro L' h
    have : L' = [] := by have := h.length_eq; simpa using this
    exact ⟨[], by rw [this], rfl⟩
  | cons b M ih =>
    intro L' h
    have hb : b ∈ L'.map f := h.mem_iff.2 (by simp)
    obtain ⟨a, ha, rfl⟩ := List.mem_map.1 hb
    obtain ⟨s, t, rfl⟩ := List.append_of_mem ha
    have h2 : ((s ++ t).map f).Perm M := by
      have h3 : ((s ++ a :: t).map f).Perm (f a :: (s ++ t).map f) := (List.perm_middle (l₁ := s) (l₂ := t) (a := a)).map f
      exact (h3.symm.trans h).cons_inv
    obtain ⟨M', h4, rfl⟩ := ih h2
    exact ⟨a :: M', (List.perm_middle).trans (h4.cons a), rfl⟩
theorem Has.perm {w0 W : World} {L M : List Asn} (h : Has w0 W L) (hp : L.Perm M) : Has w0 W M := by
  obtain ⟨L', rfl, h1, h2, h3⟩ := h
  obtain ⟨M', hpm, rfl⟩ := perm_map_inv hp
  exact ⟨M', rfl, h1, fun x hx => h2 x (hpm.mem_iff.2 hx), (hpm.pairwise_iff (fun h => Ent.apart_symm h)).1 h3⟩
set_option maxRecDepth 100000 in
set_option maxHeartbeats 8000000 in
theorem plays_core (A : Option Addr) (c : Nat) (ps : List Int) (A' : Option Addr) (c' : Nat) (Q : List (List Int)) (w : World) (hq : PkAt w A c ps) (hQ : MatAt w A' Q) (hok : PsOk ps) (hn : Q.length ≤ 300) : Calls Try.prog 3 #[.slice A ps.length c, .slice A' Q.length c'] w fun e w' => e = .returned (.bool true) ∧ Below w.heap.size w w' := by
  have HA := Lib.hid hq
  have HQ := Lib.hid hQ
  have HK := Lib.hid hok
  have H0 := Lib.hid (Has.empty (Below.refl w.heap.size w))
  have e1 : decide ((20 : Int) < (ps.length : Int)) = false := decide_eq_false (by have := hok.le; omega)
  have e2 : decide ((300 : Int) < (Q.length : Int)) = false := decide_eq_false (by omega)
  have N1 := Lib.hid (newH H0.out HA.out hok)
  have hps8 := hok.le
  have hps20 := Lib.hid (show ps.length ≤ 20 by omega)
  clear hq hQ hok hps8
  go_enter Try.func3, Try.ntmps3
  go_wp2_with fail
  refine N1.out.mono ?_
  rintro e w1 ⟨g0, pb, pc, rfl, H1⟩
  have N2 := Lib.hid (refNew H1 (HA.out.step H1.below) hps20.out)
  clear N1 H1
  go_wp2_with fail
  refine N2.out.mono ?_
  rintro e w2 hnew
  have hnew2 : ∃ gr pb2 pc2, e = .returned (.tuple #[.pointer (some ⟨gr, 0, none⟩), .int .i64 0]) ∧ Has w w2 (refA gr (.slice (some ⟨pb2, 0, none⟩) ps.length pc2) 0 (.slice none 0 0) [] :: intA (.slice (some ⟨pb2, 0, none⟩) ps.length pc2) ps :: tm g0 pb pc ps 0 [] :: [pa pb pc ps]) := hnew.elim (fun h => h.2) (fun h => absurd HK.out h.1)
  obtain ⟨gr, pb2, pc2, rfl, H2⟩ := hnew2
  have H3 : Has w w2 (tm g0 pb pc ps 0 [] :: pa pb pc ps :: refA gr (.slice (some ⟨pb2, 0, none⟩) ps.length pc2) 0 (.slice none 0 0) [] :: [intA (.slice (some ⟨pb2, 0, none⟩) ps.length pc2) ps]) := H2.perm (by
    exact (List.perm_append_comm (l₁ := [refA gr (.slice (some ⟨pb2, 0, none⟩) ps.length pc2) 0 (.slice none 0 0) [], intA (.slice (some ⟨pb2, 0, none⟩) ps.length pc2) ps]) (l₂ := [tm g0 pb pc ps 0 [], pa pb pc ps])))
  replace H3 := Lib.hid H3
  clear N2 hnew H2
  go_wp2_with fail
  go_loopw [5, 9] (fun vt vi wr => PlRel w gr pb pc pb2 pc2 ps Q.length vt vi wr) (fun _ vi _ => Q.length - (intOf vi).toNat)
  case atStart => exact ⟨0, g0, [], .slice none 0 0, Nat.zero_le _, rfl, rfl, Good.start ps, H3.out⟩
  case round =>
    obtain ⟨i, g, ws, v, hi, rfl, rfl, hgd, HS⟩ := hrel
    replace HS := Lib.hid HS
    clear H3
    by_cases hin : i < Q.length
    · have hin' : (i : Int) < (Q.length : Int) := Int.ofNat_lt.2 hin
      have tk : decide (Q.length ≤ i) = false := decide_eq_false (Nat.not_le.2 hin)
      have hi300 : i < 300 := by omega
      obtain ⟨ad, Ai, Ci, rfl, hblk, hcell, hpk, hlq⟩ := HQ.out i hin
      have hgn := Lib.hid (hgd.next HK.out (Q.getD i []))
      have hD9 := told_len3 hgd HK.out (Q.getD i []) (by omega)
      have hws9 := Lib.hid (show ws.length ≤ 90000 by have := hgd.len; omega)
      have hwl9 := Lib.hid (show ws.length ≤ 100000 by have := hgd.len; omega)
      generalize Q.getD i [] = q at *
      have hcell0 := Lib.hid hcell
      replace hgd := Lib.hid hgd
      replace hpk := Lib.hid hpk
      replace hlq := Lib.hid hlq
      have hin3 := Lib.hid hin
      clear hblk hcell hi hin
      by_cases h7 : i % 7 = 3
      · have t7 : ((i : Int) % 7 == 3) = true := beq_iff_eq.mpr (by omega)
        have h7' := Lib.hid h7
        clear h7
        go_wp2_with fail
        refine (copyH (g := g) (A := some ⟨pb, 0, none⟩) (n := ps.length) (c := pc) (now := i) (ws := ws) HS.out (by simp) hwl9.out).mono ?_
        rintro e wc ⟨g', rfl, HC⟩
        have NT := Lib.hid (tickH (L1 := [tm g' pb pc ps i ws]) (L2 := [pa pb pc ps, refA gr (.slice (some ⟨pb2, 0, none⟩) ps.length pc2) i v ws, intA (.slice (some ⟨pb2, 0, none⟩) ps.length pc2) ps]) (qs := []) (A := none) (c := 0) HC (by simp) HK.out hgd.out (by omega) (PkAt.nil wc) (by decide))
        clear HC HS
        go_wp2_with fail
        refine NT.out.mono ?_
        rintro e wt ⟨AT, cT, hcT, rfl, HT0⟩
        have HT := Lib.hid (show Has w wt (tm g' pb pc ps i ws :: pa pb pc ps :: refA gr (.slice (some ⟨pb2, 0, none⟩) ps.length pc2) i v ws :: [intA (.slice (some ⟨pb2, 0, none⟩) ps.length pc2) ps]) from HT0.sub (.cons _ (.cons_cons _ (.cons _ (List.Sublist.refl _)))))
        clear HT0 NT hcT
        have hcq := ((HT.out.below).cell (World.block_lt_of_cell? w _ hcell0.out)).trans hcell0.out
        have N3 := Lib.hid (tickH (L1 := []) (L2 := [pa pb pc ps, refA gr (.slice (some ⟨pb2, 0, none⟩) ps.length pc2) i v ws, intA (.slice (some ⟨pb2, 0, none⟩) ps.length pc2) ps]) HT.out (by simp) HK.out hgd.out (by omega) (hpk.out.step HT.out.below) hlq.out)
        go_wp2_with fail
        refine N3.out.mono ?_
        rintro e w4 ⟨A4, c4, hc4, rfl, H4⟩
        have hcq2 := ((H4.below).cell (World.block_lt_of_cell? w _ hcell0.out)).trans hcell0.out
        have N4 := Lib.hid (refTick (L1 := [dueA (.slice A4 ((told i (rel i 0 ps q ws)).map W3.due).length c4) ((told i (rel i 0 ps q ws)).map W3.due), tm g' pb pc ps (i + 1) (left i (rel i 0 ps q ws)), pa pb pc ps]) (L2 := []) H4 HK.out hws9.out (by omega) hpk.out hlq.out)
        clear H4 N3 HT hcq
        generalize hDD : (told i (rel i 0 ps q ws)).map W3.due = D at *
        generalize hW2 : left i (rel i 0 ps q ws) = ws2 at *
        have hDl := Lib.hid hD9
        replace hDD := Lib.hid hDD
        replace hW2 := Lib.hid hW2
        replace hc4 := Lib.hid hc4
        go_wp2_with fail
        refine N4.out.mono ?_
        rintro e w5 ⟨A5, c5, v5, rfl, H5⟩
        have HD := Lib.hid (H5.step (Below.refl _ _).drew)
        clear H5 N4 hcq2
        obtain ⟨E, hE⟩ : ∃ E, ws2.map W3.due = E := ⟨_, rfl⟩
        have hwl0 : ws2.length ≤ 100000 := by have := hgn.out.len; omega
        have hEl := Lib.hid (show E.length ≤ 100000 by rw [← hE, List.length_map]; exact hwl0)
        have hwl := Lib.hid hwl0
        replace hE := Lib.hid hE
        clear hwl0
        generalize hi1 : i + 1 = i1 at *
        replace hi1 := Lib.hid hi1
        clear hD9
        go_wp2_with fail
        refine start_ (n := 23) (S := fun w' => w'.cell? ⟨gr, 1, none⟩ = some (.int .i64 (i1 : Int))) (ds := []) #[false, false, false, false, false, false, false, false, false, false, false, false, false, false, false, false, false, false, false, false, false, false, false] (by kernel_rfl) rfl rfl (ref_cells (g := gr) (pv := (.slice (some ⟨pb2, 0, none⟩) ps.length pc2)) (v := v5) (now := i1) (l := ws2) HD.out (by simp)).2.1 (fun hHeld => ?_)
        refine pure_ (i := 0) (N := some 74) (v := ?_) (a' := ?_) #[true, false, false, false, false, false, false, false, false, false, false, false, false, false, false, false, false, false, false, false, false, false, false] rfl rfl (by kernel_rfl) (fun _ _ _ h => h) (Or.inl ⟨by rfl, ?_⟩) ?_ ?_
        rotate_left
        · intro w'
          go_simp
          first | with_reducible rfl | rfl
        rotate_left
        · simp only [Act.put, List.setIfInBounds_toArray, List.set_cons_zero, List.set_cons_succ, i64_w, i32_w]
          rfl
        refine pure_ (i := 2) (N := some 76) (v := ?_) (a' := ?_) #[true, false, true, false, false, false, false, false, false, false, false, false, false, false, false, false, false, false, false, false, false, false, false] rfl rfl (by kernel_rfl) (fun _ _ _ h => h) (Or.inl ⟨by rfl, ?_⟩) ?_ ?_
        rotate_left
        · intro w'
          go_simp
          first | with_reducible rfl | rfl
        rotate_left
        · simp only [Act.put, List.setIfInBounds_toArray, List.set_cons_zero, List.set_cons_succ, i64_w, i32_w]
          rfl
        refine one_ (i := 1) (N := some 75) #[true, true, true, false, false, false, false, false, false, false, false, false, false, false, false, false, false, false, false, false, false, false, false] rfl rfl (by kernel_rfl) (by decide) (fun K hK => ?_)
        refine goes_ Try.func17 (by kernel_rfl) rfl #[.slice A4 D.length c4] (by rfl) rfl rfl (by (try simp only [List.map_toArray, List.map_cons, List.map_nil]); first | done | rfl) ?_
        refine (plainH (A := A4) (c := c4) (l := D) HD.out (by simp) hc4.out hDl.out).mono ?_
        rintro e w6 ⟨P6, q6, rfl, hp6, hb6⟩
        refine ⟨_, rfl, ?_⟩
        have H6 := Lib.hid (HD.out.step hb6)
        have hr6 := Lib.hid (pl_dueR (A := A5) (c := c5) (l := D) H6.out (by simp) hDl.out)
        replace hp6 := Lib.hid hp6
        clear hb6 HD
        refine hK.out _ _ (ref_cells (g := gr) (pv := (.slice (some ⟨pb2, 0, none⟩) ps.length pc2)) (v := v5) (now := i1) (l := ws2) H6.out (by simp)).2.1 (fun hHeld => ?_)
        clear hK K
        refine norm_ (a' := ?_) ?_ ?_
        rotate_left
        · show Act.put _ (some 75) _ = _
          simp only [Act.put, List.setIfInBounds_toArray, List.set_cons_zero, List.set_cons_succ, i64_w, i32_w]
          rfl
        refine one_ (i := 3) (N := some 77) #[true, true, true, true, false, false, false, false, false, false, false, false, false, false, false, false, false, false, false, false, false, false, false] rfl rfl (by kernel_rfl) (by decide) (fun K hK => ?_)
        refine goes_ Try.func16 (by kernel_rfl) rfl #[.slice P6 D.length q6, .slice A5 D.length c5] (by rfl) rfl rfl (by (try simp only [List.map_toArray, List.map_cons, List.map_nil]); first | done | rfl) ?_
        refine (sameC hp6.out hr6.out hDl.out).mono ?_
        rintro e w7 ⟨rfl, hb7⟩
        refine ⟨_, rfl, ?_⟩
        have H7 := Lib.hid (H6.out.step hb7)
        clear hb7 H6 hp6 hr6
        refine hK.out _ _ (ref_cells (g := gr) (pv := (.slice (some ⟨pb2, 0, none⟩) ps.length pc2)) (v := v5) (now := i1) (l := ws2) H7.out (by simp)).2.1 (fun hHeld => ?_)
        clear hK K
        refine norm_ (a' := ?_) ?_ ?_
        rotate_left
        · show Act.put _ (some 77) _ = _
          simp only [Act.put, List.setIfInBounds_toArray, List.set_cons_zero, List.set_cons_succ, i64_w, i32_w]
          rfl
        refine pure_ (i := 4) (N := some 78) (v := ?_) (a' := ?_) #[true, true, true, true, true, false, false, false, false, false, false, false, false, false, false, false, false, false, false, false, false, false, false] rfl rfl (by kernel_rfl) (fun _ _ _ h => h) (Or.inl ⟨by rfl, ?_⟩) ?_ ?_
        rotate_left
        · intro w'
          go_simp
          first | with_reducible rfl | rfl
        rotate_left
        · simp only [Act.put, List.setIfInBounds_toArray, List.set_cons_zero, List.set_cons_succ, i64_w, i32_w]
          rfl
        refine pure_ (i := 5) (N := some 79) (v := ?_) (a' := ?_) #[true, true, true, true, true, true, false, false, false, false, false, false, false, false, false, false, false, false, false, false, false, false, false] rfl rfl (by kernel_rfl) (fun _ _ _ h => h) (Or.inl ⟨by rfl, ?_⟩) ?_ ?_
        rotate_left
        · intro w'
          go_simp
          first | with_reducible rfl | rfl
        rotate_left
        · simp only [Act.put, List.setIfInBounds_toArray, List.set_cons_zero, List.set_cons_succ, i64_w, i32_w]
          rfl
        refine pure_ (i := 6) (N := some 80) (v := ?_) (a' := ?_) #[true, true, true, true, true, true, true, false, false, false, false, false, false, false, false, false, false, false, false, false, false, false, false] rfl rfl (by kernel_rfl) (fun _ _ _ h => h) (Or.inl ⟨by rfl, ?_⟩) ?_ ?_
        rotate_left
        · intro w'
          go_simp
          first | with_reducible rfl | rfl
        rotate_left
        · simp only [Act.put, List.setIfInBounds_toArray, List.set_cons_zero, List.set_cons_succ, i64_w, i32_w]
          rfl
        refine pure_ (i := 9) (N := some 83) (v := ?_) (a' := ?_) #[true, true, true, true, true, true, true, false, false, true, false, false, false, false, false, false, false, false, false, false, false, false, false] rfl rfl (by kernel_rfl) (fun _ _ _ h => h) (Or.inl ⟨by rfl, ?_⟩) ?_ ?_
        rotate_left
        · intro w'
          go_simp
          first | with_reducible rfl | rfl
        rotate_left
        · simp only [Act.put, List.setIfInBounds_toArray, List.set_cons_zero, List.set_cons_succ, i64_w, i32_w]
          rfl
        refine one_ (i := 7) (N := some 81) #[true, true, true, true, true, true, true, true, false, true, false, false, false, false, false, false, false, false, false, false, false, false, false] rfl rfl (by kernel_rfl) (by decide) (fun K hK => ?_)
        refine goes_ Try.func18 (by kernel_rfl) rfl #[.pointer (some ⟨g', 0, none⟩)] (by rfl) rfl rfl (by (try simp only [List.map_toArray, List.map_cons, List.map_nil]); first | done | rfl) ?_
        refine (waitE (g := g') (pv := (.slice (some ⟨pb, 0, none⟩) ps.length pc)) (now := i1) (ws := ws2) (E := E) H7.out (by simp) hgn.out.sorted hwl.out hE.out).mono ?_
        rintro e w8 ⟨A8, c8, hc8, rfl, H8⟩
        refine ⟨_, rfl, ?_⟩
        replace H8 := Lib.hid H8
        replace hc8 := Lib.hid hc8
        clear H7
        refine hK.out _ _ (ref_cells (g := gr) (pv := (.slice (some ⟨pb2, 0, none⟩) ps.length pc2)) (v := v5) (now := i1) (l := ws2) H8.out (by simp)).2.1 (fun hHeld => ?_)
        clear hK K
        refine norm_ (a' := ?_) ?_ ?_
        rotate_left
        · show Act.put _ (some 81) _ = _
          simp only [Act.put, List.setIfInBounds_toArray, List.set_cons_zero, List.set_cons_succ, i64_w, i32_w]
          rfl
        refine one_ (i := 8) (N := some 82) #[true, true, true, true, true, true, true, true, true, true, false, false, false, false, false, false, false, false, false, false, false, false, false] rfl rfl (by kernel_rfl) (by decide) (fun K hK => ?_)
        refine goes_ Try.func17 (by kernel_rfl) rfl #[.slice A8 E.length c8] (by rfl) rfl rfl (by (try simp only [List.map_toArray, List.map_cons, List.map_nil]); first | done | rfl) ?_
        refine (plainH (A := A8) (c := c8) (l := E) H8.out (by simp) hc8.out hEl.out).mono ?_
        rintro e w9 ⟨P9, q9, rfl, hp9, hb9⟩
        refine ⟨_, rfl, ?_⟩
        have H9 := Lib.hid (H8.out.step hb9)
        replace hp9 := Lib.hid hp9
        clear hb9 H8
        refine hK.out _ _ (ref_cells (g := gr) (pv := (.slice (some ⟨pb2, 0, none⟩) ps.length pc2)) (v := v5) (now := i1) (l := ws2) H9.out (by simp)).2.1 (fun hHeld => ?_)
        clear hK K
        refine norm_ (a' := ?_) ?_ ?_
        rotate_left
        · show Act.put _ (some 82) _ = _
          simp only [Act.put, List.setIfInBounds_toArray, List.set_cons_zero, List.set_cons_succ, i64_w, i32_w]
          rfl
        refine one_ (i := 10) (N := some 84) #[true, true, true, true, true, true, true, true, true, true, true, false, false, false, false, false, false, false, false, false, false, false, false] rfl rfl (by kernel_rfl) (by decide) (fun K hK => ?_)
        refine goes_ Try.func19 (by kernel_rfl) rfl #[.pointer (some ⟨gr, 0, none⟩)] (by rfl) rfl rfl (by (try simp only [List.map_toArray, List.map_cons, List.map_nil]); first | done | rfl) ?_
        refine (refWaitE (L1 := [dueA (.slice A8 E.length c8) E, dueR (.slice A5 D.length c5) D, dueA (.slice A4 D.length c4) D, tm g' pb pc ps i1 ws2, pa pb pc ps]) (L2 := [intA (.slice (some ⟨pb2, 0, none⟩) ps.length pc2) ps]) (E := E) H9.out hwl.out hE.out).mono ?_
        rintro e w10 ⟨A10, c10, rfl, H10, hb10⟩
        refine ⟨_, rfl, ?_⟩
        have hr10 := Lib.hid (pl_dueR (A := A10) (c := c10) (l := E) H10 (by simp) hEl.out)
        have hp10 := Lib.hid (PlIs.step hp9.out hb10)
        replace H10 := Lib.hid H10
        clear hb10 H9 hp9
        refine hK.out _ _ (ref_cells (g := gr) (pv := (.slice (some ⟨pb2, 0, none⟩) ps.length pc2)) (v := v5) (now := i1) (l := ws2) H10.out (by simp)).2.1 (fun hHeld => ?_)
        clear hK K
        refine norm_ (a' := ?_) ?_ ?_
        rotate_left
        · show Act.put _ (some 84) _ = _
          simp only [Act.put, List.setIfInBounds_toArray, List.set_cons_zero, List.set_cons_succ, i64_w, i32_w]
          rfl
        refine one_ (i := 11) (N := some 85) #[true, true, true, true, true, true, true, true, true, true, true, true, false, false, false, false, false, false, false, false, false, false, false] rfl rfl (by kernel_rfl) (by decide) (fun K hK => ?_)
        refine goes_ Try.func16 (by kernel_rfl) rfl #[.slice P9 E.length q9, .slice A10 E.length c10] (by rfl) rfl rfl (by (try simp only [List.map_toArray, List.map_cons, List.map_nil]); first | done | rfl) ?_
        refine (sameC hp10.out hr10.out hEl.out).mono ?_
        rintro e w11 ⟨rfl, hb11⟩
        refine ⟨_, rfl, ?_⟩
        have H11 := Lib.hid (H10.out.step hb11)
        clear hb11 H10 hp10 hr10
        refine hK.out _ _ (ref_cells (g := gr) (pv := (.slice (some ⟨pb2, 0, none⟩) ps.length pc2)) (v := v5) (now := i1) (l := ws2) H11.out (by simp)).2.1 (fun hHeld => ?_)
        clear hK K
        refine norm_ (a' := ?_) ?_ ?_
        rotate_left
        · show Act.put _ (some 85) _ = _
          simp only [Act.put, List.setIfInBounds_toArray, List.set_cons_zero, List.set_cons_succ, i64_w, i32_w]
          rfl
        refine pure_ (i := 12) (N := some 86) (v := ?_) (a' := ?_) #[true, true, true, true, true, true, true, true, true, true, true, true, true, false, false, false, false, false, false, false, false, false, false] rfl rfl (by kernel_rfl) (fun _ _ _ h => h) (Or.inl ⟨by rfl, ?_⟩) ?_ ?_
        rotate_left
        · intro w'
          go_simp
          first | with_reducible rfl | rfl
        rotate_left
        · simp only [Act.put, List.setIfInBounds_toArray, List.set_cons_zero, List.set_cons_succ, i64_w, i32_w]
          rfl
        refine pure_ (i := 13) (N := some 87) (v := ?_) (a' := ?_) #[true, true, true, true, true, true, true, true, true, true, true, true, true, true, false, false, false, false, false, false, false, false, false] rfl rfl (by kernel_rfl) (fun _ _ _ h => h) (Or.inl ⟨by rfl, ?_⟩) ?_ ?_
        rotate_left
        · intro w'
          go_simp
          first | with_reducible rfl | rfl
        rotate_left
        · simp only [Act.put, List.setIfInBounds_toArray, List.set_cons_zero, List.set_cons_succ, i64_w, i32_w]
          rfl
        refine pure_ (i := 14) (N := some 88) (v := ?_) (a' := ?_) #[true, true, true, true, true, true, true, true, true, true, true, true, true, true, true, false, false, false, false, false, false, false, false] rfl rfl (by kernel_rfl) (fun _ _ _ h => h) (Or.inl ⟨by rfl, ?_⟩) ?_ ?_
        rotate_left
        · intro w'
          go_simp
          first | with_reducible rfl | rfl
        rotate_left
        · simp only [Act.put, List.setIfInBounds_toArray, List.set_cons_zero, List.set_cons_succ, i64_w, i32_w]
          rfl
        refine pure_ (i := 15) (N := some 89) (v := ?_) (a' := ?_) #[true, true, true, true, true, true, true, true, true, true, true, true, true, true, true, true, false, false, false, false, false, false, false] rfl rfl (by kernel_rfl) (fun _ _ _ h => h) (Or.inl ⟨by rfl, ?_⟩) ?_ ?_
        rotate_left
        · intro w'
          go_simp
          first | with_reducible rfl | rfl
        rotate_left
        · simp only [Act.put, List.setIfInBounds_toArray, List.set_cons_zero, List.set_cons_succ, i64_w, i32_w]
          rfl
        refine pure_ (i := 17) (N := some 91) (v := ?_) (a' := ?_) #[true, true, true, true, true, true, true, true, true, true, true, true, true, true, true, true, false, true, false, false, false, false, false] rfl rfl (by kernel_rfl) (fun _ _ _ h => h) (Or.inl ⟨by rfl, ?_⟩) ?_ ?_
        rotate_left
        · intro w'
          go_simp
          first | with_reducible rfl | rfl
        rotate_left
        · simp only [Act.put, List.setIfInBounds_toArray, List.set_cons_zero, List.set_cons_succ, i64_w, i32_w]
          rfl
        refine pure_ (i := 18) (N := some 92) (v := ?_) (a' := ?_) #[true, true, true, true, true, true, true, true, true, true, true, true, true, true, true, true, false, true, true, false, false, false, false] rfl rfl (by kernel_rfl) (fun _ _ _ h => h) (Or.inl ⟨by rfl, ?_⟩) ?_ ?_
        rotate_left
        · intro w'
          go_simp
          first | with_reducible rfl | rfl
        rotate_left
        · simp only [Act.put, List.setIfInBounds_toArray, List.set_cons_zero, List.set_cons_succ, i64_w, i32_w]
          rfl
        refine pure_ (i := 19) (N := some 93) (v := ?_) (a' := ?_) #[true, true, true, true, true, true, true, true, true, true, true, true, true, true, true, true, false, true, true, true, false, false, false] rfl rfl (by kernel_rfl) (fun _ _ _ h => h) (Or.inl ⟨by rfl, ?_⟩) ?_ ?_
        rotate_left
        · intro w'
          go_simp
          first | with_reducible rfl | rfl
        rotate_left
        · simp only [Act.put, List.setIfInBounds_toArray, List.set_cons_zero, List.set_cons_succ, i64_w, i32_w]
          rfl
        refine take_ (i := 20) (N := some 94) (v := ?_) (a' := ?_) #[true, true, true, true, true, true, true, true, true, true, true, true, true, true, true, true, false, true, true, true, true, false, false] rfl rfl (by kernel_rfl) (fun _ _ _ h => h) (Or.inl ⟨by rfl, ?_⟩) hHeld ?_ ?_
        rotate_left
        · rintro w' s0
          go_simp
          first | with_reducible rfl | rfl
        rotate_left
        · simp only [Act.put, List.setIfInBounds_toArray, List.set_cons_zero, List.set_cons_succ, i64_w, i32_w]
          rfl
        refine one_ (i := 16) (N := some 90) #[true, true, true, true, true, true, true, true, true, true, true, true, true, true, true, true, true, true, true, true, true, false, false] rfl rfl (by kernel_rfl) (by decide) (fun K hK => ?_)
        refine goes_ Try.func20 (by kernel_rfl) rfl #[.pointer (some ⟨g', 0, none⟩)] (by rfl) rfl rfl (by (try simp only [List.map_toArray, List.map_cons, List.map_nil]); first | done | rfl) ?_
        refine (nowH (g := g') (pv := (.slice (some ⟨pb, 0, none⟩) ps.length pc)) (now := i1) (ws := ws2) H11.out (by simp)).mono ?_
        rintro e w12 ⟨rfl, rfl⟩
        refine ⟨_, rfl, ?_⟩
        refine hK.out _ _ (ref_cells (g := gr) (pv := (.slice (some ⟨pb2, 0, none⟩) ps.length pc2)) (v := v5) (now := i1) (l := ws2) H11.out (by simp)).2.1 (fun hHeld => ?_)
        clear hK K
        refine norm_ (a' := ?_) ?_ ?_
        rotate_left
        · show Act.put _ (some 90) _ = _
          simp only [Act.put, List.setIfInBounds_toArray, List.set_cons_zero, List.set_cons_succ, i64_w, i32_w]
          rfl
        refine pure_ (i := 21) (N := some 95) (v := ?_) (a' := ?_) #[true, true, true, true, true, true, true, true, true, true, true, true, true, true, true, true, true, true, true, true, true, true, false] rfl rfl (by kernel_rfl) (fun _ _ _ h => h) (Or.inl ⟨by rfl, ?_⟩) ?_ ?_
        rotate_left
        · intro w'
          go_simp
          first | with_reducible rfl | rfl
        rotate_left
        · simp only [Act.put, List.setIfInBounds_toArray, List.set_cons_zero, List.set_cons_succ, i64_w, i32_w]
          rfl
        refine pure_ (i := 22) (N := some 96) (v := ?_) (a' := ?_) #[true, true, true, true, true, true, true, true, true, true, true, true, true, true, true, true, true, true, true, true, true, true, true] rfl rfl (by kernel_rfl) (fun _ _ _ h => h) (Or.inl ⟨by rfl, ?_⟩) ?_ ?_
        rotate_left
        · intro w'
          go_simp
          first | with_reducible rfl | rfl
        rotate_left
        · simp only [Act.put, List.setIfInBounds_toArray, List.set_cons_zero, List.set_cons_succ, i64_w, i32_w]
          rfl
        refine done_ (by kernel_rfl) ?_
        have hHZ := H11.out.sub (M := tm g' pb pc ps i1 ws2 :: pa pb pc ps :: refA gr (.slice (some ⟨pb2, 0, none⟩) ps.length pc2) i1 v5 ws2 :: [intA (.slice (some ⟨pb2, 0, none⟩) ps.length pc2) ps]) (.cons _ (.cons _ (.cons _ (.cons _ (List.Sublist.refl _)))))
        replace hHZ := Lib.hid hHZ
        clear H11
        go_wp2_with fail
        go_roundw
        case rel => exact ⟨i1, g', ws2, v5, by have := hi1.out; have := hin3.out; omega, by rw [← hi1.out]; go_num, rfl, hgn.out, hHZ.out⟩
        case measure => have := hin3.out; have := hi1.out; simp [intOf]; omega
      · have t7 : ((i : Int) % 7 == 3) = false := beq_eq_false_iff_ne.mpr (by omega)
        have h7' := Lib.hid h7
        clear h7
        have hcq := ((HS.out.below).cell (World.block_lt_of_cell? w _ hcell0.out)).trans hcell0.out
        have N3 := Lib.hid (tickH (L1 := []) (L2 := [pa pb pc ps, refA gr (.slice (some ⟨pb2, 0, none⟩) ps.length pc2) i v ws, intA (.slice (some ⟨pb2, 0, none⟩) ps.length pc2) ps]) HS.out (by simp) HK.out hgd.out (by omega) (hpk.out.step HS.out.below) hlq.out)
        go_wp2_with fail
        refine N3.out.mono ?_
        rintro e w4 ⟨A4, c4, hc4, rfl, H4⟩
        have hcq2 := ((H4.below).cell (World.block_lt_of_cell? w _ hcell0.out)).trans hcell0.out
        have N4 := Lib.hid (refTick (L1 := [dueA (.slice A4 ((told i (rel i 0 ps q ws)).map W3.due).length c4) ((told i (rel i 0 ps q ws)).map W3.due), tm g pb pc ps (i + 1) (left i (rel i 0 ps q ws)), pa pb pc ps]) (L2 := []) H4 HK.out hws9.out (by omega) hpk.out hlq.out)
        clear H4 N3 HS hcq
        generalize hDD : (told i (rel i 0 ps q ws)).map W3.due = D at *
        generalize hW2 : left i (rel i 0 ps q ws) = ws2 at *
        have hDl := Lib.hid hD9
        replace hDD := Lib.hid hDD
        replace hW2 := Lib.hid hW2
        replace hc4 := Lib.hid hc4
        go_wp2_with fail
        refine N4.out.mono ?_
        rintro e w5 ⟨A5, c5, v5, rfl, H5⟩
        have HD := Lib.hid (H5.step (Below.refl _ _).drew)
        clear H5 N4 hcq2
        obtain ⟨E, hE⟩ : ∃ E, ws2.map W3.due = E := ⟨_, rfl⟩
        have hwl0 : ws2.length ≤ 100000 := by have := hgn.out.len; omega
        have hEl := Lib.hid (show E.length ≤ 100000 by rw [← hE, List.length_map]; exact hwl0)
        have hwl := Lib.hid hwl0
        replace hE := Lib.hid hE
        clear hwl0
        generalize hi1 : i + 1 = i1 at *
        replace hi1 := Lib.hid hi1
        clear hD9
        go_wp2_with fail
        refine start_ (n := 23) (S := fun w' => w'.cell? ⟨gr, 1, none⟩ = some (.int .i64 (i1 : Int))) (ds := []) #[false, false, false, false, false, false, false, false, false, false, false, false, false, false, false, false, false, false, false, false, false, false, false] (by kernel_rfl) rfl rfl (ref_cells (g := gr) (pv := (.slice (some ⟨pb2, 0, none⟩) ps.length pc2)) (v := v5) (now := i1) (l := ws2) HD.out (by simp)).2.1 (fun hHeld => ?_)
        refine pure_ (i := 0) (N := some 74) (v := ?_) (a' := ?_) #[true, false, false, false, false, false, false, false, false, false, false, false, false, false, false, false, false, false, false, false, false, false, false] rfl rfl (by kernel_rfl) (fun _ _ _ h => h) (Or.inl ⟨by rfl, ?_⟩) ?_ ?_
        rotate_left
        · intro w'
          go_simp
          first | with_reducible rfl | rfl
        rotate_left
        · simp only [Act.put, List.setIfInBounds_toArray, List.set_cons_zero, List.set_cons_succ, i64_w, i32_w]
          rfl
        refine pure_ (i := 2) (N := some 76) (v := ?_) (a' := ?_) #[true, false, true, false, false, false, false, false, false, false, false, false, false, false, false, false, false, false, false, false, false, false, false] rfl rfl (by kernel_rfl) (fun _ _ _ h => h) (Or.inl ⟨by rfl, ?_⟩) ?_ ?_
        rotate_left
        · intro w'
          go_simp
          first | with_reducible rfl | rfl
        rotate_left
        · simp only [Act.put, List.setIfInBounds_toArray, List.set_cons_zero, List.set_cons_succ, i64_w, i32_w]
          rfl
        refine one_ (i := 1) (N := some 75) #[true, true, true, false, false, false, false, false, false, false, false, false, false, false, false, false, false, false, false, false, false, false, false] rfl rfl (by kernel_rfl) (by decide) (fun K hK => ?_)
        refine goes_ Try.func17 (by kernel_rfl) rfl #[.slice A4 D.length c4] (by rfl) rfl rfl (by (try simp only [List.map_toArray, List.map_cons, List.map_nil]); first | done | rfl) ?_
        refine (plainH (A := A4) (c := c4) (l := D) HD.out (by simp) hc4.out hDl.out).mono ?_
        rintro e w6 ⟨P6, q6, rfl, hp6, hb6⟩
        refine ⟨_, rfl, ?_⟩
        have H6 := Lib.hid (HD.out.step hb6)
        have hr6 := Lib.hid (pl_dueR (A := A5) (c := c5) (l := D) H6.out (by simp) hDl.out)
        replace hp6 := Lib.hid hp6
        clear hb6 HD
        refine hK.out _ _ (ref_cells (g := gr) (pv := (.slice (some ⟨pb2, 0, none⟩) ps.length pc2)) (v := v5) (now := i1) (l := ws2) H6.out (by simp)).2.1 (fun hHeld => ?_)
        clear hK K
        refine norm_ (a' := ?_) ?_ ?_
        rotate_left
        · show Act.put _ (some 75) _ = _
          simp only [Act.put, List.setIfInBounds_toArray, List.set_cons_zero, List.set_cons_succ, i64_w, i32_w]
          rfl
        refine one_ (i := 3) (N := some 77) #[true, true, true, true, false, false, false, false, false, false, false, false, false, false, false, false, false, false, false, false, false, false, false] rfl rfl (by kernel_rfl) (by decide) (fun K hK => ?_)
        refine goes_ Try.func16 (by kernel_rfl) rfl #[.slice P6 D.length q6, .slice A5 D.length c5] (by rfl) rfl rfl (by (try simp only [List.map_toArray, List.map_cons, List.map_nil]); first | done | rfl) ?_
        refine (sameC hp6.out hr6.out hDl.out).mono ?_
        rintro e w7 ⟨rfl, hb7⟩
        refine ⟨_, rfl, ?_⟩
        have H7 := Lib.hid (H6.out.step hb7)
        clear hb7 H6 hp6 hr6
        refine hK.out _ _ (ref_cells (g := gr) (pv := (.slice (some ⟨pb2, 0, none⟩) ps.length pc2)) (v := v5) (now := i1) (l := ws2) H7.out (by simp)).2.1 (fun hHeld => ?_)
        clear hK K
        refine norm_ (a' := ?_) ?_ ?_
        rotate_left
        · show Act.put _ (some 77) _ = _
          simp only [Act.put, List.setIfInBounds_toArray, List.set_cons_zero, List.set_cons_succ, i64_w, i32_w]
          rfl
        refine pure_ (i := 4) (N := some 78) (v := ?_) (a' := ?_) #[true, true, true, true, true, false, false, false, false, false, false, false, false, false, false, false, false, false, false, false, false, false, false] rfl rfl (by kernel_rfl) (fun _ _ _ h => h) (Or.inl ⟨by rfl, ?_⟩) ?_ ?_
        rotate_left
        · intro w'
          go_simp
          first | with_reducible rfl | rfl
        rotate_left
        · simp only [Act.put, List.setIfInBounds_toArray, List.set_cons_zero, List.set_cons_succ, i64_w, i32_w]
          rfl
        refine pure_ (i := 5) (N := some 79) (v := ?_) (a' := ?_) #[true, true, true, true, true, true, false, false, false, false, false, false, false, false, false, false, false, false, false, false, false, false, false] rfl rfl (by kernel_rfl) (fun _ _ _ h => h) (Or.inl ⟨by rfl, ?_⟩) ?_ ?_
        rotate_left
        · intro w'
          go_simp
          first | with_reducible rfl | rfl
        rotate_left
        · simp only [Act.put, List.setIfInBounds_toArray, List.set_cons_zero, List.set_cons_succ, i64_w, i32_w]
          rfl
        refine pure_ (i := 6) (N := some 80) (v := ?_) (a' := ?_) #[true, true, true, true, true, true, true, false, false, false, false, false, false, false, false, false, false, false, false, false, false, false, false] rfl rfl (by kernel_rfl) (fun _ _ _ h => h) (Or.inl ⟨by rfl, ?_⟩) ?_ ?_
        rotate_left
        · intro w'
          go_simp
          first | with_reducible rfl | rfl
        rotate_left
        · simp only [Act.put, List.setIfInBounds_toArray, List.set_cons_zero, List.set_cons_succ, i64_w, i32_w]
          rfl
        refine pure_ (i := 9) (N := some 83) (v := ?_) (a' := ?_) #[true, true, true, true, true, true, true, false, false, true, false, false, false, false, false, false, false, false, false, false, false, false, false] rfl rfl (by kernel_rfl) (fun _ _ _ h => h) (Or.inl ⟨by rfl, ?_⟩) ?_ ?_
        rotate_left
        · intro w'
          go_simp
          first | with_reducible rfl | rfl
        rotate_left
        · simp only [Act.put, List.setIfInBounds_toArray, List.set_cons_zero, List.set_cons_succ, i64_w, i32_w]
          rfl
        refine one_ (i := 7) (N := some 81) #[true, true, true, true, true, true, true, true, false, true, false, false, false, false, false, false, false, false, false, false, false, false, false] rfl rfl (by kernel_rfl) (by decide) (fun K hK => ?_)
        refine goes_ Try.func18 (by kernel_rfl) rfl #[.pointer (some ⟨g, 0, none⟩)] (by rfl) rfl rfl (by (try simp only [List.map_toArray, List.map_cons, List.map_nil]); first | done | rfl) ?_
        refine (waitE (g := g) (pv := (.slice (some ⟨pb, 0, none⟩) ps.length pc)) (now := i1) (ws := ws2) (E := E) H7.out (by simp) hgn.out.sorted hwl.out hE.out).mono ?_
        rintro e w8 ⟨A8, c8, hc8, rfl, H8⟩
        refine ⟨_, rfl, ?_⟩
        replace H8 := Lib.hid H8
        replace hc8 := Lib.hid hc8
        clear H7
        refine hK.out _ _ (ref_cells (g := gr) (pv := (.slice (some ⟨pb2, 0, none⟩) ps.length pc2)) (v := v5) (now := i1) (l := ws2) H8.out (by simp)).2.1 (fun hHeld => ?_)
        clear hK K
        refine norm_ (a' := ?_) ?_ ?_
        rotate_left
        · show Act.put _ (some 81) _ = _
          simp only [Act.put, List.setIfInBounds_toArray, List.set_cons_zero, List.set_cons_succ, i64_w, i32_w]
          rfl
        refine one_ (i := 8) (N := some 82) #[true, true, true, true, true, true, true, true, true, true, false, false, false, false, false, false, false, false, false, false, false, false, false] rfl rfl (by kernel_rfl) (by decide) (fun K hK => ?_)
        refine goes_ Try.func17 (by kernel_rfl) rfl #[.slice A8 E.length c8] (by rfl) rfl rfl (by (try simp only [List.map_toArray, List.map_cons, List.map_nil]); first | done | rfl) ?_
        refine (plainH (A := A8) (c := c8) (l := E) H8.out (by simp) hc8.out hEl.out).mono ?_
        rintro e w9 ⟨P9, q9, rfl, hp9, hb9⟩
        refine ⟨_, rfl, ?_⟩
        have H9 := Lib.hid (H8.out.step hb9)
        replace hp9 := Lib.hid hp9
        clear hb9 H8
        refine hK.out _ _ (ref_cells (g := gr) (pv := (.slice (some ⟨pb2, 0, none⟩) ps.length pc2)) (v := v5) (now := i1) (l := ws2) H9.out (by simp)).2.1 (fun hHeld => ?_)
        clear hK K
        refine norm_ (a' := ?_) ?_ ?_
        rotate_left
        · show Act.put _ (some 82) _ = _
          simp only [Act.put, List.setIfInBounds_toArray, List.set_cons_zero, List.set_cons_succ, i64_w, i32_w]
          rfl
        refine one_ (i := 10) (N := some 84) #[true, true, true, true, true, true, true, true, true, true, true, false, false, false, false, false, false, false, false, false, false, false, false] rfl rfl (by kernel_rfl) (by decide) (fun K hK => ?_)
        refine goes_ Try.func19 (by kernel_rfl) rfl #[.pointer (some ⟨gr, 0, none⟩)] (by rfl) rfl rfl (by (try simp only [List.map_toArray, List.map_cons, List.map_nil]); first | done | rfl) ?_
        refine (refWaitE (L1 := [dueA (.slice A8 E.length c8) E, dueR (.slice A5 D.length c5) D, dueA (.slice A4 D.length c4) D, tm g pb pc ps i1 ws2, pa pb pc ps]) (L2 := [intA (.slice (some ⟨pb2, 0, none⟩) ps.length pc2) ps]) (E := E) H9.out hwl.out hE.out).mono ?_
        rintro e w10 ⟨A10, c10, rfl, H10, hb10⟩
        refine ⟨_, rfl, ?_⟩
        have hr10 := Lib.hid (pl_dueR (A := A10) (c := c10) (l := E) H10 (by simp) hEl.out)
        have hp10 := Lib.hid (PlIs.step hp9.out hb10)
        replace H10 := Lib.hid H10
        clear hb10 H9 hp9
        refine hK.out _ _ (ref_cells (g := gr) (pv := (.slice (some ⟨pb2, 0, none⟩) ps.length pc2)) (v := v5) (now := i1) (l := ws2) H10.out (by simp)).2.1 (fun hHeld => ?_)
        clear hK K
        refine norm_ (a' := ?_) ?_ ?_
        rotate_left
        · show Act.put _ (some 84) _ = _
          simp only [Act.put, List.setIfInBounds_toArray, List.set_cons_zero, List.set_cons_succ, i64_w, i32_w]
          rfl
        refine one_ (i := 11) (N := some 85) #[true, true, true, true, true, true, true, true, true, true, true, true, false, false, false, false, false, false, false, false, false, false, false] rfl rfl (by kernel_rfl) (by decide) (fun K hK => ?_)
        refine goes_ Try.func16 (by kernel_rfl) rfl #[.slice P9 E.length q9, .slice A10 E.length c10] (by rfl) rfl rfl (by (try simp only [List.map_toArray, List.map_cons, List.map_nil]); first | done | rfl) ?_
        refine (sameC hp10.out hr10.out hEl.out).mono ?_
        rintro e w11 ⟨rfl, hb11⟩
        refine ⟨_, rfl, ?_⟩
        have H11 := Lib.hid (H10.out.step hb11)
        clear hb11 H10 hp10 hr10
        refine hK.out _ _ (ref_cells (g := gr) (pv := (.slice (some ⟨pb2, 0, none⟩) ps.length pc2)) (v := v5) (now := i1) (l := ws2) H11.out (by simp)).2.1 (fun hHeld => ?_)
        clear hK K
        refine norm_ (a' := ?_) ?_ ?_
        rotate_left
        · show Act.put _ (some 85) _ = _
          simp only [Act.put, List.setIfInBounds_toArray, List.set_cons_zero, List.set_cons_succ, i64_w, i32_w]
          rfl
        refine pure_ (i := 12) (N := some 86) (v := ?_) (a' := ?_) #[true, true, true, true, true, true, true, true, true, true, true, true, true, false, false, false, false, false, false, false, false, false, false] rfl rfl (by kernel_rfl) (fun _ _ _ h => h) (Or.inl ⟨by rfl, ?_⟩) ?_ ?_
        rotate_left
        · intro w'
          go_simp
          first | with_reducible rfl | rfl
        rotate_left
        · simp only [Act.put, List.setIfInBounds_toArray, List.set_cons_zero, List.set_cons_succ, i64_w, i32_w]
          rfl
        refine pure_ (i := 13) (N := some 87) (v := ?_) (a' := ?_) #[true, true, true, true, true, true, true, true, true, true, true, true, true, true, false, false, false, false, false, false, false, false, false] rfl rfl (by kernel_rfl) (fun _ _ _ h => h) (Or.inl ⟨by rfl, ?_⟩) ?_ ?_
        rotate_left
        · intro w'
          go_simp
          first | with_reducible rfl | rfl
        rotate_left
        · simp only [Act.put, List.setIfInBounds_toArray, List.set_cons_zero, List.set_cons_succ, i64_w, i32_w]
          rfl
        refine pure_ (i := 14) (N := some 88) (v := ?_) (a' := ?_) #[true, true, true, true, true, true, true, true, true, true, true, true, true, true, true, false, false, false, false, false, false, false, false] rfl rfl (by kernel_rfl) (fun _ _ _ h => h) (Or.inl ⟨by rfl, ?_⟩) ?_ ?_
        rotate_left
        · intro w'
          go_simp
          first | with_reducible rfl | rfl
        rotate_left
        · simp only [Act.put, List.setIfInBounds_toArray, List.set_cons_zero, List.set_cons_succ, i64_w, i32_w]
          rfl
        refine pure_ (i := 15) (N := some 89) (v := ?_) (a' := ?_) #[true, true, true, true, true, true, true, true, true, true, true, true, true, true, true, true, false, false, false, false, false, false, false] rfl rfl (by kernel_rfl) (fun _ _ _ h => h) (Or.inl ⟨by rfl, ?_⟩) ?_ ?_
        rotate_left
        · intro w'
          go_simp
          first | with_reducible rfl | rfl
        rotate_left
        · simp only [Act.put, List.setIfInBounds_toArray, List.set_cons_zero, List.set_cons_succ, i64_w, i32_w]
          rfl
        refine pure_ (i := 17) (N := some 91) (v := ?_) (a' := ?_) #[true, true, true, true, true, true, true, true, true, true, true, true, true, true, true, true, false, true, false, false, false, false, false] rfl rfl (by kernel_rfl) (fun _ _ _ h => h) (Or.inl ⟨by rfl, ?_⟩) ?_ ?_
        rotate_left
        · intro w'
          go_simp
          first | with_reducible rfl | rfl
        rotate_left
        · simp only [Act.put, List.setIfInBounds_toArray, List.set_cons_zero, List.set_cons_succ, i64_w, i32_w]
          rfl
        refine pure_ (i := 18) (N := some 92) (v := ?_) (a' := ?_) #[true, true, true, true, true, true, true, true, true, true, true, true, true, true, true, true, false, true, true, false, false, false, false] rfl rfl (by kernel_rfl) (fun _ _ _ h => h) (Or.inl ⟨by rfl, ?_⟩) ?_ ?_
        rotate_left
        · intro w'
          go_simp
          first | with_reducible rfl | rfl
        rotate_left
        · simp only [Act.put, List.setIfInBounds_toArray, List.set_cons_zero, List.set_cons_succ, i64_w, i32_w]
          rfl
        refine pure_ (i := 19) (N := some 93) (v := ?_) (a' := ?_) #[true, true, true, true, true, true, true, true, true, true, true, true, true, true, true, true, false, true, true, true, false, false, false] rfl rfl (by kernel_rfl) (fun _ _ _ h => h) (Or.inl ⟨by rfl, ?_⟩) ?_ ?_
        rotate_left
        · intro w'
          go_simp
          first | with_reducible rfl | rfl
        rotate_left
        · simp only [Act.put, List.setIfInBounds_toArray, List.set_cons_zero, List.set_cons_succ, i64_w, i32_w]
          rfl
        refine take_ (i := 20) (N := some 94) (v := ?_) (a' := ?_) #[true, true, true, true, true, true, true, true, true, true, true, true, true, true, true, true, false, true, true, true, true, false, false] rfl rfl (by kernel_rfl) (fun _ _ _ h => h) (Or.inl ⟨by rfl, ?_⟩) hHeld ?_ ?_
        rotate_left
        · rintro w' s0
          go_simp
          first | with_reducible rfl | rfl
        rotate_left
        · simp only [Act.put, List.setIfInBounds_toArray, List.set_cons_zero, List.set_cons_succ, i64_w, i32_w]
          rfl
        refine one_ (i := 16) (N := some 90) #[true, true, true, true, true, true, true, true, true, true, true, true, true, true, true, true, true, true, true, true, true, false, false] rfl rfl (by kernel_rfl) (by decide) (fun K hK => ?_)
        refine goes_ Try.func20 (by kernel_rfl) rfl #[.pointer (some ⟨g, 0, none⟩)] (by rfl) rfl rfl (by (try simp only [List.map_toArray, List.map_cons, List.map_nil]); first | done | rfl) ?_
        refine (nowH (g := g) (pv := (.slice (some ⟨pb, 0, none⟩) ps.length pc)) (now := i1) (ws := ws2) H11.out (by simp)).mono ?_
        rintro e w12 ⟨rfl, rfl⟩
        refine ⟨_, rfl, ?_⟩
        refine hK.out _ _ (ref_cells (g := gr) (pv := (.slice (some ⟨pb2, 0, none⟩) ps.length pc2)) (v := v5) (now := i1) (l := ws2) H11.out (by simp)).2.1 (fun hHeld => ?_)
        clear hK K
        refine norm_ (a' := ?_) ?_ ?_
        rotate_left
        · show Act.put _ (some 90) _ = _
          simp only [Act.put, List.setIfInBounds_toArray, List.set_cons_zero, List.set_cons_succ, i64_w, i32_w]
          rfl
        refine pure_ (i := 21) (N := some 95) (v := ?_) (a' := ?_) #[true, true, true, true, true, true, true, true, true, true, true, true, true, true, true, true, true, true, true, true, true, true, false] rfl rfl (by kernel_rfl) (fun _ _ _ h => h) (Or.inl ⟨by rfl, ?_⟩) ?_ ?_
        rotate_left
        · intro w'
          go_simp
          first | with_reducible rfl | rfl
        rotate_left
        · simp only [Act.put, List.setIfInBounds_toArray, List.set_cons_zero, List.set_cons_succ, i64_w, i32_w]
          rfl
        refine pure_ (i := 22) (N := some 96) (v := ?_) (a' := ?_) #[true, true, true, true, true, true, true, true, true, true, true, true, true, true, true, true, true, true, true, true, true, true, true] rfl rfl (by kernel_rfl) (fun _ _ _ h => h) (Or.inl ⟨by rfl, ?_⟩) ?_ ?_
        rotate_left
        · intro w'
          go_simp
          first | with_reducible rfl | rfl
        rotate_left
        · simp only [Act.put, List.setIfInBounds_toArray, List.set_cons_zero, List.set_cons_succ, i64_w, i32_w]
          rfl
        refine done_ (by kernel_rfl) ?_
        have hHZ := H11.out.sub (M := tm g pb pc ps i1 ws2 :: pa pb pc ps :: refA gr (.slice (some ⟨pb2, 0, none⟩) ps.length pc2) i1 v5 ws2 :: [intA (.slice (some ⟨pb2, 0, none⟩) ps.length pc2) ps]) (.cons _ (.cons _ (.cons _ (.cons _ (List.Sublist.refl _)))))
        replace hHZ := Lib.hid hHZ
        clear H11
        go_wp2_with fail
        go_roundw
        case rel => exact ⟨i1, g, ws2, v5, by have := hi1.out; have := hin3.out; omega, by rw [← hi1.out]; go_num, rfl, hgn.out, hHZ.out⟩
        case measure => have := hin3.out; have := hi1.out; simp [intOf]; omega
    · have e0 : ¬ ((i : Int) < (Q.length : Int)) := fun h => hin (Int.ofNat_lt.1 h)
      clear hi hin hgd
      go_wp2_with fail
      refine (known_walk _).mono ?_
      rintro e wk ⟨rfl, hbk⟩
      have HZ := Lib.hid (HS.out.below.trans (hbk.mono HS.out.size))
      clear hbk
      go_wp2_with fail
      go_ret
      exact ⟨rfl, HZ.out⟩
set_option maxRecDepth 100000 in
set_option maxHeartbeats 4000000 in
theorem plays_any (A : Option Addr) (c : Nat) (ps : List Int) (A' : Option Addr) (c' : Nat) (Q : List (List Int)) (w : World) (hq : PkAt w A c ps) (hQ : MatAt w A' Q) : Calls Try.prog 3 #[.slice A ps.length c, .slice A' Q.length c'] w fun e w' => e = .returned (.bool true) ∧ Below w.heap.size w w' := by
  have HA := Lib.hid hq
  have H0 := Lib.hid (Has.empty (Below.refl w.heap.size w))
  by_cases h20 : 20 < ps.length
  · have e1 : decide ((20 : Int) < (ps.length : Int)) = true := decide_eq_true (by omega)
    clear hq hQ h20
    go_enter Try.func3, Try.ntmps3
    go_wp2_with fail
    refine (known_walk _).mono ?_
    rintro e wk ⟨rfl, hbk⟩
    have HZ := Lib.hid (H0.out.below.trans (hbk.mono H0.out.size))
    clear hbk
    go_wp2_with fail
    go_ret
    exact ⟨rfl, HZ.out⟩
  · by_cases h300 : 300 < Q.length
    · have e1 : decide ((20 : Int) < (ps.length : Int)) = false := decide_eq_false (by omega)
      have e2 : decide ((300 : Int) < (Q.length : Int)) = true := decide_eq_true (by omega)
      clear hq hQ h20 h300
      go_enter Try.func3, Try.ntmps3
      go_wp2_with fail
      refine (known_walk _).mono ?_
      rintro e wk ⟨rfl, hbk⟩
      have HZ := Lib.hid (H0.out.below.trans (hbk.mono H0.out.size))
      clear hbk
      go_wp2_with fail
      go_ret
      exact ⟨rfl, HZ.out⟩
    · by_cases hok : PsOk ps
      · exact plays_core A c ps A' c' Q w hq hQ hok (by omega)
      · have e1 : decide ((20 : Int) < (ps.length : Int)) = false := decide_eq_false (by omega)
        have e2 : decide ((300 : Int) < (Q.length : Int)) = false := decide_eq_false (by omega)
        have N1 := Lib.hid (newNo HA.out hok)
        have N2 := Lib.hid (refNew H0.out HA.out (by omega))
        replace hok := Lib.hid hok
        clear hq hQ h20 h300
        go_enter Try.func3, Try.ntmps3
        go_wp2_with fail
        refine N1.out.mono ?_
        rintro e w1 ⟨rfl, hw1⟩
        rw [← hw1]
        clear N1 hw1 w1
        go_wp2_with fail
        refine N2.out.mono ?_
        rintro e w2 hnew
        obtain ⟨rfl, hw2⟩ : e = .returned (.tuple #[.pointer none, .int .i64 1]) ∧ w = w2 := hnew.elim (fun h => absurd h.1 hok.out) (fun h => h.2)
        rw [← hw2]
        clear N2 hnew hw2 w2
        go_wp2_with fail
        go_loopw [5, 9] (fun vt vi wr => vt = .pointer none ∧ vi = .int .i64 0 ∧ wr = w) (fun _ _ _ => 0)
        case atStart => exact ⟨rfl, rfl, rfl⟩
        case round =>
          obtain ⟨rfl, rfl, hwr⟩ := hrel
          rw [hwr]
          clear hwr wr
          by_cases hz : (0 : Int) < (Q.length : Int)
          · have tz : decide ((0 : Int) < (Q.length : Int)) = true := decide_eq_true hz
            go_wp2_with fail
            refine (known_walk _).mono ?_
            rintro e wk ⟨rfl, hbk⟩
            have HZ := Lib.hid (H0.out.below.trans (hbk.mono H0.out.size))
            clear hbk
            go_wp2_with fail
            go_ret
            exact ⟨rfl, HZ.out⟩
          · have tz : decide ((0 : Int) < (Q.length : Int)) = false := decide_eq_false hz
            go_wp2_with fail
            refine (known_walk _).mono ?_
            rintro e wk ⟨rfl, hbk⟩
            have HZ := Lib.hid (H0.out.below.trans (hbk.mono H0.out.size))
            clear hbk
            go_wp2_with fail
            go_ret
            exact ⟨rfl, HZ.out⟩
end Go.Proofs.Ytdpfbmhdbnkdaaa.Tm
