/- TimerCopies: a copy tells what the timer tells; a tick of the one changes nothing of the other. -/
import Derived.Test.YtdpfbmhdbnkdaaaTmApp
import Derived.Test.YtdpfbmhdbnkdaaaOpenInts
set_option linter.unusedVariables false
set_option linter.unusedSimpArgs false
namespace Go.Proofs.Ytdpfbmhdbnkdaaa.Tm
open Go Go.RowKit Go.Proofs.YtdpfbmhdbnkdaaaW.PrintWords Go.Proofs.YtdpfbmhdbnkdaaaW.PrintLast Go.Proofs.YtdpfbmhdbnkdaaaW.PrintMore Go.Proofs.Ytdpfbmhdbnkdaaa Go.Proofs.Ytdpfbmhdbnkdaaa.Print
attribute [local go_sem] max2_int min2_int max_two min_two
/-- what is told slot by slot, from slot now on -/
def duesOf (ps : List Int) : Nat → List W3 → List (List Int) → List S48
  | _, _, [] => []
  | now, ws, q :: Q => (told now (rel now 0 ps q ws)).map W3.due ++ duesOf ps (now + 1) (left now (rel now 0 ps q ws)) Q
theorem told_len {ps : List Int} {now : Nat} {ws : List W3} (h : Good ps now ws) (hp : PsOk ps) (qs : List Int) (hn : now ≤ 100) : ((told now (rel now 0 ps qs ws)).map W3.due).length ≤ 1000 := by
  have hm := rel_mid ps now hp.le ps qs 0 ws (by omega) h.mid
  rw [show ((0 : Nat) : Int) = 0 from rfl] at hm
  have h1 : (told now (rel now 0 ps qs ws)).length ≤ (rel now 0 ps qs ws).length := List.length_filter_le _ _
  have := hm.len
  have := hp.le
  rw [List.length_map]
  omega
theorem MatAt.step {w W : World} {A : Option Addr} {Q : List (List Int)} (h : MatAt w A Q) (hb : Below w.heap.size w W) : MatAt W A Q := by
  intro i hi
  obtain ⟨ad, Ai, Ci, h1, h2, h3, h4, h5⟩ := h i hi
  exact ⟨ad, Ai, Ci, h1, Nat.lt_of_lt_of_le h2 hb.size, (hb.cell (World.block_lt_of_cell? w _ h3)).trans h3, h4.step hb, h5⟩
theorem dropQ (Q : List (List Int)) (i : Nat) (h : i < Q.length) : Q.drop i = Q.getD i [] :: Q.drop (i + 1) := by
  rw [List.drop_eq_getElem_cons h, List.getD_eq_getElem?_getD, List.getElem?_eq_getElem h]
  rfl
abbrev tm (g pb pc : Nat) (ps : List Int) (i : Nat) (ws : List W3) : Asn := timA g (.slice (some ⟨pb, 0, none⟩) ps.length pc) i ws
abbrev pa (pb pc : Nat) (ps : List Int) : Asn := intA (.slice (some ⟨pb, 0, none⟩) ps.length pc) ps
theorem sameC2 {W : World} {A A' : Option Addr} {c c' : Nat} {l l' : List S48} (h : PlIs W A c l) (h' : PlIs W A' c' l') (he : l' = l) (hl : l.length ≤ 100000) : Calls Try.prog 16 #[.slice A l.length c, .slice A' l'.length c'] W fun e w' => e = .returned (.bool true) ∧ Below W.heap.size W w' := by
  subst he
  exact sameC h h' hl
def CpRel1 (w : World) (g pb pc : Nat) (ps : List Int) (hf : Nat) (vi : Value) (wr : World) : Prop := ∃ (i : Nat) (ws : List W3), i ≤ hf ∧ vi = .int .i64 i ∧ Good ps i ws ∧ Has w wr [tm g pb pc ps i ws, pa pb pc ps]
/-- loops 2 and 3: the timer h ticks; R: the rest; T: all that is to be told -/
def CpRel (w : World) (R1 R2 : List Asn) (hf n : Nat) (h pb pc : Nat) (ps : List Int) (Q : List (List Int)) (T : List S48) (vv vi : Value) (wr : World) : Prop := ∃ (i : Nat) (ws : List W3) (l : List S48), hf ≤ i ∧ i ≤ n ∧ vi = .int .i64 i ∧ Good ps i ws ∧ l.length ≤ 1000 * i ∧ l ++ duesOf ps i ws (Q.drop i) = T ∧ Has w wr (dueA vv l :: (R1 ++ tm h pb pc ps i ws :: R2))
set_option maxRecDepth 100000 in
set_option maxHeartbeats 8000000 in
theorem copies_walk (A : Option Addr) (c : Nat) (ps : List Int) (A' : Option Addr) (c' : Nat) (Q : List (List Int)) (w : World) (hq : PkAt w A c ps) (hQ : MatAt w A' Q) (hok : PsOk ps) (hn : Q.length ≤ 100) : Calls Try.prog 8 #[.slice A ps.length c, .slice A' Q.length c'] w fun e w' => e = .returned (.bool true) ∧ Below w.heap.size w w' := by
  have HA := Lib.hid hq
  have HQ := Lib.hid hQ
  have H0 := Lib.hid (Has.empty (Below.refl w.heap.size w))
  have e1 : decide ((100 : Int) < (Q.length : Int)) = false := decide_eq_false (by omega)
  have N1 := Lib.hid (newH H0.out HA.out hok)
  have HK := Lib.hid hok
  clear hok hq hQ
  go_enter Try.func8, Try.ntmps8
  go_wp2_with fail
  refine N1.out.mono ?_
  rintro e w1 ⟨g, pb, pc, rfl, H1⟩
  replace H1 := Lib.hid H1
  clear N1
  go_wp2_with fail
  go_loopw [7] (fun vi wr => CpRel1 w g pb pc ps (Q.length / 2) vi wr) (fun vi _ => Q.length / 2 - (intOf vi).toNat)
  case atStart => exact ⟨0, [], Nat.zero_le _, rfl, Good.start ps, H1.out⟩
  case round =>
    obtain ⟨i, ws, hi, rfl, hgd, HS⟩ := hrel
    replace HS := Lib.hid HS
    replace hgd := Lib.hid hgd
    by_cases hin : i < Q.length / 2
    · have hin' : (i : Int) < (Q.length : Int) / 2 := by omega
      have hiQ : i < Q.length := by omega
      have hiQ' : (i : Int) < (Q.length : Int) := by omega
      obtain ⟨ad, Ai, Ci, rfl, hblk, hcell, hpk, hlq⟩ := (MatAt.step HQ.out HS.out.below) i hiQ
      have N2 := Lib.hid (tickH (L1 := []) (L2 := [pa pb pc ps]) HS.out (by simp) HK.out hgd.out (by omega) hpk hlq)
      have hgn := Lib.hid (hgd.out.next HK.out (Q.getD i []))
      generalize (told i (rel i 0 ps (Q.getD i []) ws)).map W3.due = D at *
      generalize left i (rel i 0 ps (Q.getD i []) ws) = ws2 at *
      generalize Q.getD i [] = q at *
      replace hpk := Lib.hid hpk
      replace hlq := Lib.hid hlq
      clear hblk
      go_wp2_with fail
      refine N2.out.mono ?_
      rintro e w2 ⟨A2, c2, _, rfl, H2⟩
      have H3 : Has w w2 [tm g pb pc ps (i + 1) ws2, pa pb pc ps] := H2.sub ((List.Sublist.refl _).cons _)
      replace H3 := Lib.hid H3
      clear H2 N2
      go_wp2_with fail
      go_roundw
      case rel => exact ⟨i + 1, ws2, by omega, by go_num, hgn.out, H3.out⟩
      case measure => simp [intOf]; omega
    · have e0 : ¬ ((i : Int) < (Q.length : Int) / 2) := by omega
      obtain rfl : i = Q.length / 2 := by omega
      generalize hhf : Q.length / 2 = hf at *
      have hhf2 : (Q.length : Int) / 2 = (hf : Int) := by omega
      have hf100 : hf ≤ 50 := by omega
      have hwl : ws.length ≤ 100000 := by have := hgd.out.len; omega
      generalize hws0 : ws = ws0 at *
      clear hws0
      have hgd0 := hgd
      clear hgd
      go_wp2_with fail
      refine (copyH (g := g) (A := some ⟨pb, 0, none⟩) (n := ps.length) (c := pc) (now := hf) (ws := ws0) HS.out (by simp) hwl).mono ?_
      rintro e w2 ⟨g', rfl, H2⟩
      replace H2 := Lib.hid H2
      go_wp2_with fail
      refine (waitH (g := g) (pv := .slice (some ⟨pb, 0, none⟩) ps.length pc) (now := hf) (ws := ws0) H2.out (by simp) hgd0.out.sorted hwl).mono ?_
      rintro e w3 ⟨AW, cW, hcW, rfl, H3⟩
      generalize hLW : ws0.map W3.due = lw at *
      replace hLW := Lib.hid hLW
      replace H3 := Lib.hid H3
      replace hcW := Lib.hid hcW
      go_wp2_with fail
      refine (nowH (g := g) (pv := .slice (some ⟨pb, 0, none⟩) ps.length pc) (now := hf) (ws := ws0) H3.out (by simp)).mono ?_
      rintro e w3' ⟨rfl, rfl⟩
      have H4 : Has w w3 (dueA (.slice none 0 0) [] :: ([dueA (.slice AW lw.length cW) lw] ++ tm g' pb pc ps hf ws0 :: [tm g pb pc ps hf ws0, pa pb pc ps])) := dueA_nil _ _ H3.out
      replace H4 := Lib.hid H4
      clear H2 HS H3
      go_wp2_with fail
      go_loopw [11, 12] (fun vv vi wr => CpRel w [dueA (.slice AW lw.length cW) lw] [tm g pb pc ps hf ws0, pa pb pc ps] hf Q.length g' pb pc ps Q (duesOf ps hf ws0 (Q.drop hf)) vv vi wr) (fun _ vi _ => Q.length - (intOf vi).toNat)
      case atStart => exact ⟨hf, ws0, [], Nat.le_refl _, by omega, rfl, hgd0.out, Nat.zero_le _, rfl, H4.out⟩
      case round =>
        obtain ⟨i, ws, l, hi0, hi, rfl, hgd, hll, hT, HR⟩ := hrel
        obtain ⟨AV, cV, rfl, hcV⟩ : ∃ AV cV, u11 = .slice AV l.length cV ∧ l.length ≤ cV := LRow.slice (Has.row HR (by first | exact List.mem_cons_self))
        replace HR := Lib.hid HR
        replace hgd := Lib.hid hgd
        replace hcV := Lib.hid hcV
        by_cases hin : i < Q.length
        · have hin' : (i : Int) < (Q.length : Int) := by omega
          have hi100 : i < 100 := by omega
          rw [dropQ Q i hin, duesOf] at hT
          obtain ⟨ad, Ai, Ci, rfl, hblk, hcell, hpk, hlq⟩ := (MatAt.step HQ.out HR.out.below) i hin
          have N3 := Lib.hid (tickH (L1 := dueA (.slice AV l.length cV) l :: [dueA (.slice AW lw.length cW) lw]) (L2 := [tm g pb pc ps hf ws0, pa pb pc ps]) HR.out (by simp) HK.out hgd.out (by omega) hpk hlq)
          have htl := told_len hgd.out HK.out (Q.getD i []) (by omega)
          have hgn := Lib.hid (hgd.out.next HK.out (Q.getD i []))
          generalize (told i (rel i 0 ps (Q.getD i []) ws)).map W3.due = D at *
          generalize left i (rel i 0 ps (Q.getD i []) ws) = ws2 at *
          have hql : ((Q.getD i []).length : Int) = ((Q.getD i []).length : Int) := rfl
          generalize Q.getD i [] = q at *
          have hll2 : l.length ≤ 100000 := by omega
          replace hT := Lib.hid hT
          replace hlq := Lib.hid hlq
          replace hpk := Lib.hid hpk
          clear hql hblk
          go_wp2_with fail
          refine N3.out.mono ?_
          rintro e w4 ⟨A4, c4, hc4, rfl, H4⟩
          replace H4 := Lib.hid H4
          replace hc4 := Lib.hid hc4
          clear N3
          go_wp2_with (first | (at_builtin; refine wpList_append_row _ rfl (.tmp 62) (.tmp 68) 33 48 _ 2 16 rfl Try.underlying33 info48 rfl (by decide) (by decide) (.slice AV l.length cV) l.length (l.flatMap enc2) (D.flatMap enc2) A4 D.length c4 rfl rfl (flat_one D) ?hO ?hD ?len ?go) | fail)
          case hO => exact Has.row H4.out (by simp [dueA])
          case hD => exact Has.row H4.out (by simp [dueA])
          case len => omega
          case go =>
            intro v1 w5 hrow hg hat
            have H5 := Has.grow (L1 := [dueA (.slice A4 D.length c4) D]) (L2 := [dueA (.slice AW lw.length cW) lw] ++ tm g' pb pc ps (i + 1) ws2 :: [tm g pb pc ps hf ws0, pa pb pc ps]) (v := .slice AV l.length cV) H4.out hg hrow hat
            rw [dueA_app] at H5
            have H6 : Has w w5 (dueA v1 (l ++ D) :: ([dueA (.slice AW lw.length cW) lw] ++ tm g' pb pc ps (i + 1) ws2 :: [tm g pb pc ps hf ws0, pa pb pc ps])) := H5.sub ((List.Sublist.refl _).cons _)
            obtain ⟨A6, c6, rfl, _⟩ := LRow.slice hrow
            rw [← List.length_append] at *
            replace H6 := Lib.hid H6
            clear hrow hg hat H5
            have hfin : (l ++ D).length ≤ 1000 * (i + 1) := by rw [List.length_append]; omega
            replace hfin := Lib.hid hfin
            generalize hlD : l ++ D = lD at *
            replace hlD := Lib.hid hlD
            go_wp2_with fail
            go_roundw
            case rel => exact ⟨i + 1, ws2, lD, by omega, by omega, by go_num, hgn.out, hfin.out, by rw [← hlD.out, List.append_assoc]; exact hT.out, H6.out⟩
            case measure => simp [intOf]; omega
        · have e0 : ¬ ((i : Int) < (Q.length : Int)) := by omega
          obtain rfl : i = Q.length := by omega
          rw [List.drop_length, duesOf, List.append_nil] at hT
          have hll2 : l.length ≤ 100000 := by omega
          have hTT := Lib.hid hT
          clear hT
          generalize hlT : l = lT at *
          generalize AV = AT at *
          generalize hcT0 : cV = cT at *
          generalize hwT : ws = wsT at *
          clear hlT hcT0 hwT hgd
          have hcT := hcV
          clear hcV
          have hlw : lw.length ≤ 100000 := by rw [← hLW.out, List.length_map]; exact hwl
          have N5 := waitH (g := g) (pv := .slice (some ⟨pb, 0, none⟩) ps.length pc) (now := hf) (ws := ws0) HR.out (by simp) hgd0.out.sorted hwl
          rw [hLW.out] at N5
          replace N5 := Lib.hid N5
          go_wp2_with fail
          refine N5.out.mono ?_
          rintro e w5 ⟨A5, c5, hc5, rfl, H5⟩
          replace H5 := Lib.hid H5
          clear N5 HR
          go_wp2_with fail
          refine (plainH (A := A5) (c := c5) (l := lw) H5.out (by simp) hc5 hlw).mono ?_
          rintro e w6 ⟨P1, q1, rfl, hp1, hb1⟩
          have H6 := Lib.hid (H5.out.step hb1)
          replace hp1 := Lib.hid hp1
          clear hb1 H5
          go_wp2_with fail
          refine (plainH (A := AW) (c := cW) (l := lw) H6.out (by simp) hcW.out hlw).mono ?_
          rintro e w7 ⟨P2, q2, rfl, hp2, hb2⟩
          have N7 := Lib.hid (sameC (PlIs.step hp1.out hb2) hp2 hlw)
          have H7 := Lib.hid (H6.out.step hb2)
          clear hp2 hb2 H6 hp1
          go_wp2_with fail
          refine N7.out.mono ?_
          rintro e w8 ⟨rfl, hb3⟩
          have H8 := Lib.hid (H7.out.step hb3)
          clear hb3 N7 H7
          go_wp2_with fail
          refine (nowH (g := g) (pv := .slice (some ⟨pb, 0, none⟩) ps.length pc) (now := hf) (ws := ws0) H8.out (by simp)).mono ?_
          rintro e w9 ⟨rfl, rfl⟩
          have H9 : Has w w8 (dueA (.slice none 0 0) [] :: ([dueA (.slice AT lT.length cT) lT, tm g' pb pc ps Q.length wsT] ++ tm g pb pc ps hf ws0 :: [pa pb pc ps])) := dueA_nil _ _ (H8.out.sub (.cons _ (.cons_cons _ (.cons _ (List.Sublist.refl _)))))
          replace H9 := Lib.hid H9
          clear H8
          go_wp2_with fail
          go_loopw [13, 14] (fun vv vi wr => CpRel w [dueA (.slice AT lT.length cT) lT, tm g' pb pc ps Q.length wsT] [pa pb pc ps] hf Q.length g pb pc ps Q (duesOf ps hf ws0 (Q.drop hf)) vv vi wr) (fun _ vi _ => Q.length - (intOf vi).toNat)
          case atStart => exact ⟨hf, ws0, [], Nat.le_refl _, by omega, rfl, hgd0.out, Nat.zero_le _, rfl, H9.out⟩
          case round =>
            obtain ⟨i, ws, l, hi0, hi, rfl, hgd, hll, hT, HR⟩ := hrel
            obtain ⟨AV, cV, rfl, hcV⟩ : ∃ AV cV, u13 = .slice AV l.length cV ∧ l.length ≤ cV := LRow.slice (Has.row HR (by first | exact List.mem_cons_self))
            replace HR := Lib.hid HR
            replace hgd := Lib.hid hgd
            replace hcV := Lib.hid hcV
            by_cases hin : i < Q.length
            · have hin' : (i : Int) < (Q.length : Int) := by omega
              have hi100 : i < 100 := by omega
              rw [dropQ Q i hin, duesOf] at hT
              obtain ⟨ad, Ai, Ci, rfl, hblk, hcell, hpk, hlq⟩ := (MatAt.step HQ.out HR.out.below) i hin
              have N3 := Lib.hid (tickH (L1 := dueA (.slice AV l.length cV) l :: [dueA (.slice AT lT.length cT) lT, tm g' pb pc ps Q.length wsT]) (L2 := [pa pb pc ps]) HR.out (by simp) HK.out hgd.out (by omega) hpk hlq)
              have htl := told_len hgd.out HK.out (Q.getD i []) (by omega)
              have hgn := Lib.hid (hgd.out.next HK.out (Q.getD i []))
              generalize (told i (rel i 0 ps (Q.getD i []) ws)).map W3.due = D at *
              generalize left i (rel i 0 ps (Q.getD i []) ws) = ws2 at *
              have hql : ((Q.getD i []).length : Int) = ((Q.getD i []).length : Int) := rfl
              generalize Q.getD i [] = q at *
              have hll2 : l.length ≤ 100000 := by omega
              replace hT := Lib.hid hT
              replace hlq := Lib.hid hlq
              replace hpk := Lib.hid hpk
              clear hql hblk
              go_wp2_with fail
              refine N3.out.mono ?_
              rintro e w4 ⟨A4, c4, hc4, rfl, H4⟩
              replace H4 := Lib.hid H4
              replace hc4 := Lib.hid hc4
              clear N3
              go_wp2_with (first | (at_builtin; refine wpList_append_row _ rfl (.tmp 92) (.tmp 98) 33 48 _ 2 16 rfl Try.underlying33 info48 rfl (by decide) (by decide) (.slice AV l.length cV) l.length (l.flatMap enc2) (D.flatMap enc2) A4 D.length c4 rfl rfl (flat_one D) ?hO ?hD ?len ?go) | fail)
              case hO => exact Has.row H4.out (by simp [dueA])
              case hD => exact Has.row H4.out (by simp [dueA])
              case len => omega
              case go =>
                intro v1 w5 hrow hg hat
                have H5 := Has.grow (L1 := [dueA (.slice A4 D.length c4) D]) (L2 := [dueA (.slice AT lT.length cT) lT, tm g' pb pc ps Q.length wsT] ++ tm g pb pc ps (i + 1) ws2 :: [pa pb pc ps]) (v := .slice AV l.length cV) H4.out hg hrow hat
                rw [dueA_app] at H5
                have H6 : Has w w5 (dueA v1 (l ++ D) :: ([dueA (.slice AT lT.length cT) lT, tm g' pb pc ps Q.length wsT] ++ tm g pb pc ps (i + 1) ws2 :: [pa pb pc ps])) := H5.sub ((List.Sublist.refl _).cons _)
                obtain ⟨A6, c6, rfl, _⟩ := LRow.slice hrow
                rw [← List.length_append] at *
                replace H6 := Lib.hid H6
                clear hrow hg hat H5
                have hfin : (l ++ D).length ≤ 1000 * (i + 1) := by rw [List.length_append]; omega
                replace hfin := Lib.hid hfin
                generalize hlD : l ++ D = lD at *
                replace hlD := Lib.hid hlD
                go_wp2_with fail
                go_roundw
                case rel => exact ⟨i + 1, ws2, lD, by omega, by omega, by go_num, hgn.out, hfin.out, by rw [← hlD.out, List.append_assoc]; exact hT.out, H6.out⟩
                case measure => simp [intOf]; omega
            · have e0 : ¬ ((i : Int) < (Q.length : Int)) := by omega
              obtain rfl : i = Q.length := by omega
              rw [List.drop_length, duesOf, List.append_nil] at hT
              have hll2 : l.length ≤ 100000 := by omega
              have hlT := Lib.hid (hT.trans hTT.out.symm)
              clear hT
              have hllT : lT.length ≤ 100000 := by rw [← hlT.out]; exact hll2
              go_wp2_with fail
              refine (plainH (A := AT) (c := cT) (l := lT) HR.out (by simp) hcT.out hllT).mono ?_
              rintro e y1 ⟨P1, q1, rfl, hp1, hb1⟩
              have K1 := Lib.hid (HR.out.step hb1)
              replace hp1 := Lib.hid hp1
              clear hb1
              go_wp2_with fail
              refine (plainH (A := AV) (c := cV) (l := l) K1.out (by simp) hcV.out hll2).mono ?_
              rintro e y2 ⟨P2, q2, rfl, hp2, hb2⟩
              have N8 := Lib.hid (sameC2 (PlIs.step hp1.out hb2) hp2 hlT.out hllT)
              have K2 := Lib.hid (K1.out.step hb2)
              clear hp2 hb2
              go_wp2_with fail
              refine N8.out.mono ?_
              rintro e y3 ⟨rfl, hb3⟩
              have K3 := Lib.hid (K2.out.step hb3)
              clear hb3 N8
              go_wp2_with fail
              refine (nowH (g := g) (pv := .slice (some ⟨pb, 0, none⟩) ps.length pc) (now := Q.length) (ws := ws) K3.out (by simp)).mono ?_
              rintro e y4 ⟨rfl, rfl⟩
              go_wp2_with fail
              refine (nowH (g := g') (pv := .slice (some ⟨pb, 0, none⟩) ps.length pc) (now := Q.length) (ws := wsT) K3.out (by simp)).mono ?_
              rintro e y5 ⟨rfl, rfl⟩
              go_wp2_with fail
              refine (known_walk _).mono ?_
              rintro e wk ⟨rfl, hbk⟩
              have HZ := Lib.hid (K3.out.below.trans (hbk.mono K3.out.size))
              clear hbk
              go_wp2_with fail
              go_ret
              exact ⟨rfl, HZ.out⟩
theorem copies_any (A : Option Addr) (c : Nat) (ps : List Int) (A' : Option Addr) (c' : Nat) (Q : List (List Int)) (w : World) (hq : PkAt w A c ps) (hQ : MatAt w A' Q) : Calls Try.prog 8 #[.slice A ps.length c, .slice A' Q.length c'] w fun e w' => e = .returned (.bool true) ∧ Below w.heap.size w w' := by
  have H0 := Lib.hid (Has.empty (Below.refl w.heap.size w))
  by_cases hok : PsOk ps
  · by_cases hn : Q.length ≤ 100
    · exact copies_walk A c ps A' c' Q w hq hQ hok hn
    · have e1 : decide ((100 : Int) < (Q.length : Int)) = true := decide_eq_true (by omega)
      have N1 := Lib.hid (newH H0.out hq hok)
      clear hok hq hQ hn
      go_enter Try.func8, Try.ntmps8
      go_wp2_with fail
      refine N1.out.mono ?_
      rintro e w1 ⟨g, pb, pc, rfl, H1⟩
      replace H1 := Lib.hid H1
      clear N1
      go_wp2_with fail
      refine (known_walk _).mono ?_
      rintro e wk ⟨rfl, hbk⟩
      have HZ := Lib.hid (H1.out.below.trans (hbk.mono H1.out.size))
      clear hbk
      go_wp2_with fail
      go_ret
      exact ⟨rfl, HZ.out⟩
  · have N1 := Lib.hid (newNo hq hok)
    clear hok hq hQ
    go_enter Try.func8, Try.ntmps8
    go_wp2_with fail
    refine N1.out.mono ?_
    rintro e w1 ⟨rfl, rfl⟩
    clear N1
    go_wp2_with fail
    refine (known_walk _).mono ?_
    rintro e wk ⟨rfl, hbk⟩
    have HZ := Lib.hid (H0.out.below.trans (hbk.mono H0.out.size))
    clear hbk
    go_wp2_with fail
    go_ret
    exact ⟨rfl, HZ.out⟩
end Go.Proofs.Ytdpfbmhdbnkdaaa.Tm
