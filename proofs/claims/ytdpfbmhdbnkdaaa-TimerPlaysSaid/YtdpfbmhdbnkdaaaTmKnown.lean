/- What must come of fixed calls. -/
import Derived.Test.YtdpfbmhdbnkdaaaTmHas
set_option linter.unusedVariables false
set_option linter.unusedSimpArgs false
namespace Go.Proofs.Ytdpfbmhdbnkdaaa.Tm
open Go Go.RowKit Go.Proofs.YtdpfbmhdbnkdaaaW.PrintWords Go.Proofs.YtdpfbmhdbnkdaaaW.PrintLast Go.Proofs.YtdpfbmhdbnkdaaaW.PrintMore Go.Proofs.Ytdpfbmhdbnkdaaa Go.Proofs.Ytdpfbmhdbnkdaaa.Print
attribute [local go_sem] max2_int min2_int max_two min_two
theorem pk_row (W : World) (xs : List Int) : PkAt (W.alloc (.cells (xs.map (Value.int .i64)).toArray 3)) (some ⟨W.heap.size, 0, none⟩) xs.length xs := by
  refine ⟨Nat.le_refl _, fun i hi => ⟨_, rfl, ?_⟩⟩
  rw [add_plain, blk_cell (heap_alloc_new W _) i, List.getElem?_toArray, List.getElem?_map, List.getD_eq_getElem?_getD, List.getElem?_eq_getElem hi]
  rfl
theorem pl_row (W : World) (xs : List S48) (hl : xs.length ≤ 100000) : PlIs (W.alloc (.cells (xs.flatMap enc2).toArray 58)) (some ⟨W.heap.size, 0, none⟩) xs.length xs := by
  refine ⟨Nat.le_refl _, by rw [List.length_map], by omega, fun h0 => ⟨_, rfl, fun j p hj => ⟨[.int .i64 p.f0, .int .i64 p.f1], rfl, k58_mk _ p, fun i u hu => ?_⟩⟩⟩
  rw [List.getElem?_map, Option.map_eq_some_iff] at hj
  obtain ⟨q, hq, rfl⟩ := hj
  have hi : i < 2 := (List.getElem?_eq_some_iff.1 hu).1
  have e3 : k58.sz = 2 := rfl
  rw [e3, add_plain, blk_cell (heap_alloc_new W _) (j * 2 + i), List.getElem?_toArray, flat_get xs j i hi, hq]
  exact hu
def k0 : List W3 := []
def k1 : List W3 := [⟨1, 0, 1⟩]
theorem ok23 : PsOk [2, 3] := ⟨by decide, by decide, by decide⟩
theorem not20 : ¬ PsOk [2, 0] := fun h => by have := h.each 0 (by simp); omega
theorem t1 : told 0 (rel 0 0 [2, 3] [0, 1] []) = [⟨0, 0, 0⟩] := by decide
theorem l1 : left 0 (rel 0 0 [2, 3] [0, 1] []) = [⟨1, 0, 1⟩] := by decide
theorem t2 : told 1 (rel 1 0 [2, 3] [] [⟨1, 0, 1⟩]) = [⟨1, 0, 1⟩] := by decide
theorem l2 : left 1 (rel 1 0 [2, 3] [] [⟨1, 0, 1⟩]) = [] := by decide
theorem t3 : told 2 (rel 2 0 [2, 3] [-5] []) = [⟨0, 2, 2⟩] := by decide
theorem l3 : left 2 (rel 2 0 [2, 3] [-5] []) = [] := by decide
theorem g0 : Good [2, 3] 0 [] := Good.start _
theorem g1 : Good [2, 3] 1 [⟨1, 0, 1⟩] := by have := g0.next ok23 [0, 1]; rwa [show ((0 : Nat) : Int) = 0 from rfl, l1] at this
theorem g2 : Good [2, 3] 2 [] := by have := g1.next ok23 []; rwa [show ((1 : Nat) : Int) = 1 from rfl, l2] at this
theorem g3 : Good [2, 3] 3 [] := by have := g2.next ok23 [-5]; rwa [show ((2 : Nat) : Int) = 2 from rfl, l3] at this
section
variable {w0 W : World} {L1 L2 : List Asn} {g pb pc : Nat} {A : Option Addr} {c : Nat}
abbrev pv23 (pb pc : Nat) : Value := .slice (some ⟨pb, 0, none⟩) 2 pc
theorem tick1 (h : Has w0 W (L1 ++ timA g (pv23 pb pc) 0 [] :: L2)) (hp : intA (pv23 pb pc) [2, 3] ∈ L1 ++ timA g (pv23 pb pc) 0 [] :: L2) (hq : PkAt W A c [0, 1]) : Calls Try.prog 14 #[.pointer (some ⟨g, 0, none⟩), .slice A 2 c] W fun e w' => ∃ A' c', 1 ≤ c' ∧ e = .returned (.slice A' 1 c') ∧
      Has w0 w' (dueA (.slice A' 1 c') [⟨0, 0⟩] :: (L1 ++ timA g (pv23 pb pc) 1 [⟨1, 0, 1⟩] :: L2)) := by
  have := tickH (ps := [2, 3]) (qs := [0, 1]) (now := 0) h hp ok23 g0 (by omega) hq (by decide)
  rw [show ((0 : Nat) : Int) = 0 from rfl, t1, l1] at this
  exact this
theorem tick2 (h : Has w0 W (L1 ++ timA g (pv23 pb pc) 1 [⟨1, 0, 1⟩] :: L2)) (hp : intA (pv23 pb pc) [2, 3] ∈ L1 ++ timA g (pv23 pb pc) 1 [⟨1, 0, 1⟩] :: L2) : Calls Try.prog 14 #[.pointer (some ⟨g, 0, none⟩), .slice none 0 0] W fun e w' => ∃ A' c', 1 ≤ c' ∧ e = .returned (.slice A' 1 c') ∧
      Has w0 w' (dueA (.slice A' 1 c') [⟨1, 0⟩] :: (L1 ++ timA g (pv23 pb pc) 2 [] :: L2)) := by
  have := tickH (ps := [2, 3]) (qs := []) (now := 1) h hp ok23 g1 (by omega) (PkAt.nil W) (by decide)
  rw [show ((1 : Nat) : Int) = 1 from rfl, t2, l2] at this
  exact this
theorem tick3 (h : Has w0 W (L1 ++ timA g (pv23 pb pc) 2 [] :: L2)) (hp : intA (pv23 pb pc) [2, 3] ∈ L1 ++ timA g (pv23 pb pc) 2 [] :: L2) (hq : PkAt W A c [-5]) : Calls Try.prog 14 #[.pointer (some ⟨g, 0, none⟩), .slice A 1 c] W fun e w' => ∃ A' c', 1 ≤ c' ∧ e = .returned (.slice A' 1 c') ∧
      Has w0 w' (dueA (.slice A' 1 c') [⟨0, 2⟩] :: (L1 ++ timA g (pv23 pb pc) 3 [] :: L2)) := by
  have := tickH (ps := [2, 3]) (qs := [-5]) (now := 2) h hp ok23 g2 (by omega) hq (by decide)
  rw [show ((2 : Nat) : Int) = 2 from rfl, t3, l3] at this
  exact this
end
set_option maxRecDepth 100000 in
set_option maxHeartbeats 8000000 in
theorem known_walk (w : World) : Calls Try.prog 10 #[] w fun e w' => e = .returned (.bool true) ∧ Below w.heap.size w w' := by
  have H0 := Lib.hid (Has.empty (Below.refl w.heap.size w))
  have N1 := Lib.hid (newH (ps := [2, 3]) (W := w.alloc (.cells #[.int .i64 2, .int .i64 3] 3)) (H0.out.step ((Below.refl _ _).alloc (Nat.le_refl _) (.cells #[.int .i64 2, .int .i64 3] 3))) (pk_row w [2, 3]) ok23)
  go_enter Try.func10, Try.ntmps10
  go_wp2_with fail
  refine N1.out.mono ?_
  rintro e w1 ⟨g, pb, pc, rfl, H1⟩
  have H2 := Lib.hid (H1.step ((Below.refl _ _).alloc (Nat.le_refl _) (.cells #[.int .i64 2, .int .i64 0] 3)))
  have N2 := Lib.hid (newNo (ps := [2, 0]) (W := w1.alloc (.cells #[.int .i64 2, .int .i64 0] 3)) (pk_row w1 [2, 0]) not20)
  clear H1 N1 H0
  go_wp2_with fail
  refine N2.out.mono ?_
  rintro e w2 ⟨rfl, hw2⟩
  have H2' := H2.out
  rw [hw2] at H2'
  clear hw2 N2 H2
  have H3 := Lib.hid (H2'.step ((Below.refl _ _).alloc (Nat.le_refl _) (.cells #[.int .i64 0, .int .i64 1] 3)))
  have N3 := Lib.hid (tick1 (L1 := []) H3.out (by simp) (pk_row _ [0, 1]))
  clear H2'
  go_wp2_with fail
  refine N3.out.mono ?_
  rintro e w3 ⟨A1, c1, hc1, rfl, H4⟩
  replace H4 := Lib.hid H4
  replace hc1 := Lib.hid hc1
  clear N3 H3
  go_wp2_with fail
  refine (waitH (g := g) (pv := pv23 pb pc) (now := 1) (ws := [⟨1, 0, 1⟩]) H4.out (by simp) g1.sorted (by decide)).mono ?_
  rintro e w4 ⟨A2, c2, hc2, rfl, H5⟩
  replace H5 := Lib.hid H5
  replace hc2 := Lib.hid hc2
  clear H4
  go_wp2_with fail
  refine (tick2 (L1 := [dueA (.slice A2 1 c2) [⟨1, 0⟩], dueA (.slice A1 1 c1) [⟨0, 0⟩]]) H5.out (by simp)).mono ?_
  rintro e w5 ⟨A3, c3, hc3, rfl, H6⟩
  have H7 := Lib.hid (H6.step ((Below.refl _ _).alloc (Nat.le_refl _) (.cells #[.int .i64 (-5)] 3)))
  have N4 := Lib.hid (tick3 (L1 := [dueA (.slice A3 1 c3) [⟨1, 0⟩], dueA (.slice A2 1 c2) [⟨1, 0⟩], dueA (.slice A1 1 c1) [⟨0, 0⟩]]) H7.out (by simp) (pk_row _ [-5]))
  replace hc3 := Lib.hid hc3
  clear H5 H6
  go_wp2_with fail
  refine N4.out.mono ?_
  rintro e w6 ⟨A4, c4, hc4, rfl, H8⟩
  replace H8 := Lib.hid H8
  replace hc4 := Lib.hid hc4
  clear N4 H7
  go_wp2_with fail
  refine (plainH (l := [⟨0, 0⟩]) H8.out (A := A1) (c := c1) (by simp) hc1.out (by decide)).mono ?_
  rintro e p1 ⟨P1, q1, rfl, hp1, hb1⟩
  have hS1 := sameC (PlIs.step hp1 ((Below.refl _ _).alloc (Nat.le_refl _) (.cells #[.int .i64 0, .int .i64 0] 58))) (pl_row p1 [⟨0, 0⟩] (by decide)) (by decide)
  have K1 := (H8.out.step hb1).step ((Below.refl _ _).alloc (Nat.le_refl _) (.cells #[.int .i64 0, .int .i64 0] 58))
  replace hS1 := Lib.hid hS1
  replace K1 := Lib.hid K1
  clear hp1 hb1 H8
  go_wp2_with fail
  refine hS1.out.mono ?_
  rintro e s1 ⟨rfl, hc1⟩
  have M1 := Lib.hid (K1.out.step hc1)
  clear hc1 K1 hS1
  go_wp2_with fail
  refine (plainH (l := [⟨1, 0⟩]) M1.out (A := A2) (c := c2) (by simp) hc2.out (by decide)).mono ?_
  rintro e p2 ⟨P2, q2, rfl, hp2, hb2⟩
  have hS2 := sameC (PlIs.step hp2 ((Below.refl _ _).alloc (Nat.le_refl _) (.cells #[.int .i64 1, .int .i64 0] 58))) (pl_row p2 [⟨1, 0⟩] (by decide)) (by decide)
  have K2 := (M1.out.step hb2).step ((Below.refl _ _).alloc (Nat.le_refl _) (.cells #[.int .i64 1, .int .i64 0] 58))
  replace hS2 := Lib.hid hS2
  replace K2 := Lib.hid K2
  clear hp2 hb2 M1
  go_wp2_with fail
  refine hS2.out.mono ?_
  rintro e s2 ⟨rfl, hc2⟩
  have M2 := Lib.hid (K2.out.step hc2)
  clear hc2 K2 hS2
  go_wp2_with fail
  refine (plainH (l := [⟨1, 0⟩]) M2.out (A := A3) (c := c3) (by simp) hc3.out (by decide)).mono ?_
  rintro e p3 ⟨P3, q3, rfl, hp3, hb3⟩
  have hS3 := sameC (PlIs.step hp3 ((Below.refl _ _).alloc (Nat.le_refl _) (.cells #[.int .i64 1, .int .i64 0] 58))) (pl_row p3 [⟨1, 0⟩] (by decide)) (by decide)
  have K3 := (M2.out.step hb3).step ((Below.refl _ _).alloc (Nat.le_refl _) (.cells #[.int .i64 1, .int .i64 0] 58))
  replace hS3 := Lib.hid hS3
  replace K3 := Lib.hid K3
  clear hp3 hb3 M2
  go_wp2_with fail
  refine hS3.out.mono ?_
  rintro e s3 ⟨rfl, hc3⟩
  have M3 := Lib.hid (K3.out.step hc3)
  clear hc3 K3 hS3
  go_wp2_with fail
  refine (plainH (l := [⟨0, 2⟩]) M3.out (A := A4) (c := c4) (by simp) hc4.out (by decide)).mono ?_
  rintro e p4 ⟨P4, q4, rfl, hp4, hb4⟩
  have hS4 := sameC (PlIs.step hp4 ((Below.refl _ _).alloc (Nat.le_refl _) (.cells #[.int .i64 0, .int .i64 2] 58))) (pl_row p4 [⟨0, 2⟩] (by decide)) (by decide)
  have K4 := (M3.out.step hb4).step ((Below.refl _ _).alloc (Nat.le_refl _) (.cells #[.int .i64 0, .int .i64 2] 58))
  replace hS4 := Lib.hid hS4
  replace K4 := Lib.hid K4
  clear hp4 hb4 M3
  go_wp2_with fail
  refine hS4.out.mono ?_
  rintro e s4 ⟨rfl, hc4⟩
  have M4 := Lib.hid (K4.out.step hc4)
  clear hc4 K4 hS4
  go_wp2_with fail
  refine (nowH (g := g) (pv := pv23 pb pc) (now := 3) (ws := []) M4.out (by simp)).mono ?_
  rintro e x1 ⟨rfl, rfl⟩
  go_wp2_with fail
  refine (waitH (g := g) (pv := pv23 pb pc) (now := 3) (ws := []) M4.out (by simp) List.Pairwise.nil (by decide)).mono ?_
  rintro e x2 ⟨A5, c5, _, rfl, M5⟩
  replace M5 := Lib.hid M5
  go_wp2_with fail
  refine (copyH (g := g) (A := some ⟨pb, 0, none⟩) (n := 2) (c := pc) (now := 3) (ws := []) M5.out (by simp) (by decide)).mono ?_
  rintro e x3 ⟨g', rfl, M6⟩
  have HZ := Lib.hid M6.below
  clear M6 M5 M4
  go_wp2_with fail
  go_ret
  exact ⟨rfl, HZ.out⟩
end Go.Proofs.Ytdpfbmhdbnkdaaa.Tm
