/- TimerLate: a jitter that is greater is told no earlier; what is told stands in order. -/
import Derived.Test.YtdpfbmhdbnkdaaaTmApp
set_option linter.unusedVariables false
set_option linter.unusedSimpArgs false
namespace Go.Proofs.Ytdpfbmhdbnkdaaa.Tm
open Go Go.RowKit Go.Proofs.YtdpfbmhdbnkdaaaW.PrintWords Go.Proofs.YtdpfbmhdbnkdaaaW.PrintLast Go.Proofs.YtdpfbmhdbnkdaaaW.PrintMore Go.Proofs.Ytdpfbmhdbnkdaaa Go.Proofs.Ytdpfbmhdbnkdaaa.Print
attribute [local go_sem] max2_int min2_int max_two min_two
def mkw (J : Int) (Ls : List Int) (s : Int) : List W3 := (Ls.filter (fun n => decide (s ≤ n + J))).map (fun n => ⟨0, n, n + J⟩)
theorem mkw_len {J K : Int} (h : J ≤ K) (Ls : List Int) (s : Int) : (mkw J Ls s).length ≤ (mkw K Ls s).length := by
  unfold mkw
  rw [List.length_map, List.length_map]
  rw [← List.countP_eq_length_filter, ← List.countP_eq_length_filter]
  exact List.countP_mono_left (fun n _ hn => by
    simp only [decide_eq_true_eq] at hn ⊢
    omega)
/-- one slot: what is released, told, left -/
theorem late_slot {J p : Int} {Ls : List Int} {s : Int} (hJ : 0 ≤ J ∧ J ≤ 1048576) (hL : ∀ n ∈ Ls, n < s) :
    rel s 0 [p] [J] (mkw J Ls s) = mkw J (if s % p = 0 then Ls ++ [s] else Ls) s ∧ left s (rel s 0 [p] [J] (mkw J Ls s)) = mkw J (if s % p = 0 then Ls ++ [s] else Ls) (s + 1) ∧
    (told s (rel s 0 [p] [J] (mkw J Ls s))).length + (left s (rel s 0 [p] [J] (mkw J Ls s))).length = (mkw J Ls s).length + (if s % p = 0 then 1 else 0) := by
  have hr : rel s 0 [p] [J] (mkw J Ls s) = mkw J (if s % p = 0 then Ls ++ [s] else Ls) s := by
    simp only [rel, List.tail_cons]
    by_cases hp : s % p = 0
    · rw [if_pos hp, if_pos hp, show late [J] = J by show clamp J = J; unfold clamp; omega, ins_end]
      · unfold mkw
        rw [List.filter_append, List.map_append, List.filter_cons, if_pos (by simp; omega)]
        rfl
      · intro y hy
        unfold mkw at hy
        obtain ⟨n, hn, rfl⟩ := List.mem_map.1 hy
        exact .inr ⟨rfl, hL n (List.mem_filter.1 hn).1⟩
    · rw [if_neg hp, if_neg hp]
  have hsplit : ∀ l : List W3, (told s l).length + (left s l).length = l.length := by
    intro l
    unfold told left
    induction l with
    | nil => rfl
    | cons x l ih =>
      rw [List.filter_cons, List.filter_cons]
      by_cases h : x.a ≤ s <;> simp [h] <;> omega
  refine ⟨hr, ?_, ?_⟩
  · rw [hr]
    unfold left mkw
    rw [List.filter_map, List.filter_filter]
    congr 1
    apply List.filter_congr
    intro n _
    simp only [Function.comp]
    by_cases h1 : s ≤ n + J <;> by_cases h2 : n + J ≤ s <;> by_cases h3 : s + 1 ≤ n + J <;> simp [h1, h2, h3] <;> omega
  · rw [hsplit, hr]
    unfold mkw
    split
    · rw [List.filter_append, List.length_map, List.length_map, List.length_append, List.filter_cons, if_pos (by simp; omega)]
      rfl
    · rfl
theorem told_inc {s J : Int} {Ls : List Int} (hs : Sorted (mkw J Ls s)) : ∀ i, i + 1 < ((told s (mkw J Ls s)).map W3.due).length → (((told s (mkw J Ls s)).map W3.due).getD i z48).f1 < (((told s (mkw J Ls s)).map W3.due).getD (i + 1) z48).f1 := by
  intro i hi
  have h1 : Sorted (told s (mkw J Ls s)) := List.Pairwise.sublist List.filter_sublist hs
  have h0 : ∀ x ∈ told s (mkw J Ls s), x.t = 0 := by
    intro x hx
    obtain ⟨n, _, rfl⟩ := List.mem_map.1 (List.mem_filter.1 hx).1
    rfl
  generalize told s (mkw J Ls s) = T at *
  rw [List.length_map] at hi
  rw [due_getD, due_getD]
  have e1 : T.getD i z3 = T[i]'(by omega) := by rw [List.getD_eq_getElem?_getD, List.getElem?_eq_getElem (by omega)]; rfl
  have e2 : T.getD (i + 1) z3 = T[i + 1] := by rw [List.getD_eq_getElem?_getD, List.getElem?_eq_getElem hi]; rfl
  have h2 := List.pairwise_iff_getElem.1 h1 i (i + 1) (by omega) hi (by omega)
  rw [e1, e2]
  have a1 := h0 _ (List.getElem_mem (show i < T.length by omega))
  have a2 := h0 _ (List.getElem_mem hi)
  unfold W3.lt at h2
  show (T[i]'_).n < (T[i + 1]).n
  omega
abbrev tp (g pb pc : Nat) (s : Nat) (ws : List W3) : Asn := timA g (.slice (some ⟨pb, 0, none⟩) 1 pc) s ws
abbrev pp (pb pc : Nat) (p : Int) : Asn := intA (.slice (some ⟨pb, 0, none⟩) 1 pc) [p]
theorem tickP {w0 W : World} {L1 L2 : List Asn} {g pb pc s : Nat} {p J : Int} {Ls : List Int} (h : Has w0 W (L1 ++ tp g pb pc s (mkw J Ls s) :: L2)) (hp : pp pb pc p ∈ L1 ++ tp g pb pc s (mkw J Ls s) :: L2) (hok : PsOk [p]) (hgood : Good [p] s (mkw J Ls s)) (hn : s ≤ 1000) (hJ : 0 ≤ J ∧ J ≤ 1048576) (hL : ∀ n ∈ Ls, n < (s : Int))
    {A : Option Addr} (hq : PkAt W A 1 [J]) : Calls Try.prog 14 #[.pointer (some ⟨g, 0, none⟩), .slice A 1 1] W fun e w' => ∃ A' c' D, D.length ≤ c' ∧ e = .returned (.slice A' D.length c') ∧
      Has w0 w' (dueA (.slice A' D.length c') D :: (L1 ++ tp g pb pc (s + 1) (mkw J (if (s : Int) % p = 0 then Ls ++ [(s : Int)] else Ls) ((s + 1 : Nat) : Int)) :: L2)) ∧ Good [p] (s + 1) (mkw J (if (s : Int) % p = 0 then Ls ++ [(s : Int)] else Ls) ((s + 1 : Nat) : Int)) ∧
      D.length + (mkw J (if (s : Int) % p = 0 then Ls ++ [(s : Int)] else Ls) ((s + 1 : Nat) : Int)).length = (mkw J Ls s).length + (if (s : Int) % p = 0 then 1 else 0) ∧ (∀ i, i + 1 < D.length → (D.getD i z48).f1 < (D.getD (i + 1) z48).f1) := by
  obtain ⟨h1, h2, h3⟩ := late_slot (p := p) hJ hL
  have hg := hgood.next hok [J]
  rw [h2] at hg h3
  refine (tickH (ps := [p]) (qs := [J]) (now := s) h hp hok hgood (by omega) hq (by simp)).mono ?_
  rintro e w' ⟨A', c', hc, rfl, hH⟩
  rw [h2] at hH
  refine ⟨A', c', _, hc, rfl, hH, hg, by rw [List.length_map]; exact h3, ?_⟩
  have hm := rel_mid [p] s (by simp) [p] [J] 0 _ (by simp) hgood.mid
  rw [show ((0 : Nat) : Int) = 0 from rfl, h1] at hm
  rw [h1]
  exact told_inc hm.sorted
def LateRel (w : World) (g1 pb1 pc1 g2 pb2 pc2 : Nat) (p J1 J2 : Int) (n : Nat) (va vb vi : Value) (wr : World) : Prop := ∃ (s : Nat) (Ls : List Int) (ea la : Nat), s ≤ n ∧ vi = .int .i64 s ∧ va = .int .i64 ea ∧ vb = .int .i64 la ∧ (∀ k ∈ Ls, k < (s : Int)) ∧ Ls.length ≤ s ∧ ea + (mkw J1 Ls s).length = Ls.length ∧ la + (mkw J2 Ls s).length = Ls.length ∧
  Good [p] s (mkw J1 Ls s) ∧ Good [p] s (mkw J2 Ls s) ∧ Has w wr [tp g2 pb2 pc2 s (mkw J2 Ls s), pp pb2 pc2 p, tp g1 pb1 pc1 s (mkw J1 Ls s), pp pb1 pc1 p]
def LateIn (w : World) (L : List Asn) (D : List S48) (vi : Value) (wr : World) : Prop := ∃ i : Nat, 1 ≤ i ∧ (i ≤ D.length ∨ i = 1) ∧ vi = .int .i64 i ∧ Has w wr L
theorem get_z (l : List S48) (k : Nat) (h : k < l.length) : l[k]? = some (l.getD k z48) := by rw [List.getD_eq_getElem?_getD, List.getElem?_eq_getElem h]; rfl
theorem late_q {i n : Nat} (h : 1 ≤ i) (hn : i < n) (hl : n ≤ 256) : ∃ q : Nat, i = q + 1 ∧ q < 256 ∧ q < n ∧ wrap64 ((i : Int) - 1) = (q : Int) ∧ i < 256 := by
  refine ⟨i - 1, by omega, by omega, by omega, ?_, by omega⟩
  rw [wrapIn (by omega)]
  omega
theorem wadd {a b : Nat} (h : a + b ≤ 100000) : wrap64 ((a : Int) + (b : Int)) = ((a + b : Nat) : Int) := wrapIn (by omega)
theorem late_num1 {ea d1 m1' m1 l ln c s n : Nat} (he : ea + m1 = l) (hs : d1 + m1' = m1 + c) (hln : ln = l + c) (hc : c ≤ 1) (hl : l ≤ s) (hsn : s < n) (hn : n < 256) : ea + d1 ≤ 256 ∧ ea + d1 + m1' = ln ∧ ln ≤ s + 1 ∧ s ≤ 1000 ∧ s + 1 ≤ n := by omega
theorem late_end {ea la m1 m2 l s n : Nat} (h1 : ea + m1 = l) (h2 : la + m2 = l) (hl : l ≤ s) (hs : s ≤ n) (hn : n < 256) : ea + m1 ≤ 100000 ∧ la + m2 ≤ 100000 ∧ ea + m1 = la + m2 ∧ m1 ≤ 100000 ∧ m2 ≤ 100000 := by omega
theorem meas_ {i n : Nat} {z : Int} (h : i < n) (hz : z = ((i + 1 : Nat) : Int)) : n - z.toNat < n - ((i : Nat) : Int).toNat := by omega
theorem late_num2 {ea la d1 d2 m1' m2' ln : Nat} (h1 : ea + d1 + m1' = ln) (h2 : la + d2 + m2' = ln) (hm : m1' ≤ m2') (hl : ea + d1 ≤ 256) : la + d2 ≤ ea + d1 ∧ d2 ≤ 256 := by omega
set_option maxRecDepth 100000 in
set_option maxHeartbeats 8000000 in
theorem late_core (p j0 j1 J1 J2 : Int) (n : Nat) (w : World) (hok : PsOk [p]) (hmin : (if j1 < j0 then j1 else j0) = J1) (hmax : (if j0 < j1 then j1 else j0) = J2) (hJ : 0 ≤ J1 ∧ J1 ≤ J2 ∧ J2 < 256) (hn : n < 256) : Calls Try.prog 9 #[.int .i64 p, .agg #[.int .u8 j0, .int .u8 j1], .int .u8 (n : Int)] w fun e w' => e = .returned (.bool true) ∧ Below w.heap.size w w' := by
  have H0 := Lib.hid (Has.empty (Below.refl w.heap.size w))
  have H1 := Lib.hid (H0.out.box 56 #[.int .u8 j0, .int .u8 j1])
  have hn' := Lib.hid hn
  have hwv : wrap64 (n : Int) = (n : Int) := wrapIn (by omega)
  have N1 := newH (ps := [p]) (W := ((w.alloc (.cells #[.int .u8 j0, .int .u8 j1] 56)).alloc (.cells #[.int .i64 p] 3))) (H1.out.step ((Below.refl _ _).alloc (Nat.le_refl _) (.cells #[.int .i64 p] 3))) (pk_row (w.alloc (.cells #[.int .u8 j0, .int .u8 j1] 56)) [p]) hok
  rw [show (w.alloc (.cells #[.int .u8 j0, .int .u8 j1] 56)).heap.size = w.heap.size + 1 by simp] at N1
  replace N1 := Lib.hid N1
  have hwa : wrap64 J1 = J1 := wrapIn (by omega)
  have hwb : wrap64 J2 = J2 := wrapIn (by omega)
  go_enter Try.func9, Try.ntmps9
  go_wp2_with fail
  refine N1.out.mono ?_
  rintro e w1 ⟨g1, pb1, pc1, rfl, H2⟩
  have N2 := Lib.hid (newH (ps := [p]) (W := (w1.alloc (.cells #[.int .i64 p] 3))) (H2.step ((Below.refl _ _).alloc (Nat.le_refl _) (.cells #[.int .i64 p] 3))) (pk_row w1 [p]) hok)
  clear N1 H1 H0
  go_wp2_with fail
  refine N2.out.mono ?_
  rintro e w2 ⟨g2, pb2, pc2, rfl, H3⟩
  obtain ⟨_, ⟨_, hbox⟩, _⟩ := H3.get (a := boxA w.heap.size 56 #[.int .u8 j0, .int .u8 j1]) (by simp)
  have c0 : w2.cell? ⟨w.heap.size, 0, none⟩ = some (.int .u8 j0) := by rw [blk_cell hbox]; rfl
  have c1 : w2.cell? ⟨w.heap.size, 1, none⟩ = some (.int .u8 j1) := by rw [blk_cell hbox]; rfl
  replace H3 := Lib.hid (H3.sub (M := [tp g2 pb2 pc2 0 (mkw J2 [] 0), pp pb2 pc2 p, tp g1 pb1 pc1 0 (mkw J1 [] 0), pp pb1 pc1 p]) (.cons_cons _ (.cons_cons _ (.cons_cons _ (.cons_cons _ (.cons _ .slnil))))))
  clear N2 hbox
  go_wp2_with fail
  go_loopw [13, 14, 15] (fun va vb vi wr => LateRel w g1 pb1 pc1 g2 pb2 pc2 p J1 J2 n va vb vi wr) (fun _ _ vi _ => n - (intOf vi).toNat)
  case atStart => exact ⟨0, [], 0, 0, Nat.zero_le _, rfl, rfl, rfl, by simp, by simp, rfl, rfl, Good.start [p], Good.start [p], H3.out⟩
  case round =>
    obtain ⟨s, Ls, ea, la, hs, rfl, rfl, rfl, hL, hLl, he, hl, hgd1, hgd2, HS⟩ := hrel
    replace HS := Lib.hid HS
    clear H3 c0 c1
    by_cases hsn : s < n
    · have hsn' : (s : Int) < (n : Int) := by omega
      have N3 := Lib.hid (tickP (W := (wr.alloc (.cells #[.int .i64 J1] 3))) (L1 := [tp g2 pb2 pc2 s (mkw J2 Ls s), pp pb2 pc2 p]) (L2 := [pp pb1 pc1 p]) (Ls := Ls) (J := J1) (HS.out.step ((Below.refl _ _).alloc (Nat.le_refl _) (.cells #[.int .i64 J1] 3))) (by simp) hok hgd1 (by omega) (by omega) hL (pk_row _ [J1]))
      go_wp2_with fail
      refine N3.out.mono ?_
      rintro e w3 ⟨A1, k1, D1, hk1, rfl, H4, hgn1, hsum1, _⟩
      have N4 := tickP (W := (w3.alloc (.cells #[.int .i64 J2] 3))) (L1 := [dueA (.slice A1 D1.length k1) D1]) (L2 := [pp pb2 pc2 p, tp g1 pb1 pc1 (s + 1) (mkw J1 (if (s : Int) % p = 0 then Ls ++ [(s : Int)] else Ls) ((s + 1 : Nat) : Int)), pp pb1 pc1 p]) (Ls := Ls) (J := J2) (H4.step ((Below.refl _ _).alloc (Nat.le_refl _) (.cells #[.int .i64 J2] 3))) (by simp) hok hgd2 (by omega) (by omega) hL (pk_row _ [J2])
      clear N3 H4
      have hlen : (if (s : Int) % p = 0 then Ls ++ [(s : Int)] else Ls).length = Ls.length + (if (s : Int) % p = 0 then 1 else 0) := by split <;> simp
      have hall : ∀ k ∈ (if (s : Int) % p = 0 then Ls ++ [(s : Int)] else Ls), k < ((s + 1 : Nat) : Int) := by
        intro k hk
        split at hk
        · rcases List.mem_append.1 hk with hk | hk
          · have := hL k hk; omega
          · rw [List.mem_singleton] at hk; omega
        · have := hL k hk; omega
      have hc1 : (if (s : Int) % p = 0 then 1 else 0) ≤ 1 := by split <;> omega
      have hml := mkw_len (show J1 ≤ J2 by omega) (if (s : Int) % p = 0 then Ls ++ [(s : Int)] else Ls) ((s + 1 : Nat) : Int)
      generalize (if (s : Int) % p = 0 then Ls ++ [(s : Int)] else Ls) = Ln at *
      generalize (if (s : Int) % p = 0 then 1 else 0) = cn at *
      obtain ⟨hD1, he', hLn, _, hsn1⟩ := late_num1 he hsum1 hlen hc1 hLl hsn hn
      have hwe : wrap64 ((ea : Int) + (D1.length : Int)) = ((ea + D1.length : Nat) : Int) := wadd (Nat.le_trans hD1 (by decide))
      replace hml := Lib.hid hml
      have he2 := Lib.hid he'
      clear he'
      replace hLn := Lib.hid hLn
      have hlen' := Lib.hid hlen
      have hl' := Lib.hid hl
      have hc1' := Lib.hid hc1
      have hLl' := Lib.hid hLl
      have hsn2 := Lib.hid hsn
      clear he hsum1 hlen hl hc1 hLl
      replace N4 := Lib.hid N4
      replace hall := Lib.hid hall
      replace hgn1 := Lib.hid hgn1
      replace hgd2 := Lib.hid hgd2
      replace hL := Lib.hid hL
      clear hgd1
      go_wp2_with fail
      refine N4.out.mono ?_
      rintro e w4 ⟨A2, k2, D2, hk2, rfl, H5, hgn2, hsum2, hinc⟩
      replace H5 := Lib.hid (H5.sub (M := [dueA (.slice A2 D2.length k2) D2, tp g2 pb2 pc2 (s + 1) (mkw J2 Ln ((s + 1 : Nat) : Int)), pp pb2 pc2 p, tp g1 pb1 pc1 (s + 1) (mkw J1 Ln ((s + 1 : Nat) : Int)), pp pb1 pc1 p]) (.cons_cons _ (.cons _ (List.Sublist.refl _))))
      replace hgn2 := Lib.hid hgn2
      replace hinc := Lib.hid hinc
      clear N4
      obtain ⟨_, hl2, _⟩ := late_num1 hl'.out hsum2 hlen'.out hc1'.out hLl'.out hsn2.out hn'.out
      obtain ⟨hD2, hDl⟩ := late_num2 he2.out hl2 hml.out hD1
      have hwl : wrap64 ((la : Int) + (D2.length : Int)) = ((la + D2.length : Nat) : Int) := wadd (Nat.le_trans hD2 (Nat.le_trans hD1 (by decide)))
      have tl : decide (((ea + D1.length : Nat) : Int) < ((la + D2.length : Nat) : Int)) = false := decide_eq_false (Int.not_lt.2 (Int.ofNat_le.2 hD2))
      generalize ea + D1.length = ea2 at *
      generalize la + D2.length = la2 at *
      have tl2 : ((ea2 : Int) < (la2 : Int)) = False := eq_false (Int.not_lt.2 (Int.ofNat_le.2 hD2))
      replace hl2 := Lib.hid hl2
      clear hsum2 hml
      have hD1' := Lib.hid hD1
      have hDl' := Lib.hid hDl
      clear hD1 hD2
      go_wp2_with fail
      replace hwe := Lib.hid hwe
      replace hwl := Lib.hid hwl
      replace hDl := Lib.hid hDl
      have hsn3 := Lib.hid hsn1
      replace tl := Lib.hid tl
      clear tl2 hs hsn1
      go_loopw [18] (fun vi w5 => LateIn w [dueA (.slice A2 D2.length k2) D2, tp g2 pb2 pc2 (s + 1) (mkw J2 Ln ((s + 1 : Nat) : Int)), pp pb2 pc2 p, tp g1 pb1 pc1 (s + 1) (mkw J1 Ln ((s + 1 : Nat) : Int)), pp pb1 pc1 p] D2 vi w5) (fun vi _ => D2.length - (intOf vi).toNat)
      case atStart => exact ⟨1, Nat.le_refl _, .inr rfl, rfl, H5.out⟩
      case round =>
        obtain ⟨i, hi1, hi, rfl, H6⟩ := hrel
        replace H6 := Lib.hid H6
        clear H5
        by_cases hin : i < D2.length
        · have hin' : (i : Int) < (D2.length : Int) := Int.ofNat_lt.2 hin
          obtain ⟨q, hqi, hq, hqD, hws, hi256⟩ := late_q hi1 hin hDl'.out
          obtain ⟨b, rfl, _, x1⟩ := due_cells (A := A2) (c := k2) H6.out (by simp) q _ (get_z D2 q hqD)
          obtain ⟨b', hb', _, x2⟩ := due_cells (A := some ⟨b, 0, none⟩) (c := k2) H6.out (by simp) i _ (get_z D2 i hin)
          injection hb' with hb'
          injection hb' with hb' _ _
          subst hb'
          have hlt := hinc.out q (by rw [← hqi]; exact hin)
          rw [← hqi] at hlt
          generalize D2.getD q z48 = y at *
          generalize D2.getD i z48 = z at *
          have t1 : decide (z.f1 ≤ y.f1) = false := decide_eq_false (Int.not_le.2 hlt)
          have tk1 : decide (D2.length ≤ q) = false := decide_eq_false (Nat.not_le.2 hqD)
          have tk2 : decide (D2.length ≤ i) = false := decide_eq_false (Nat.not_le.2 hin)
          have hi3 := Lib.hid hi
          have hin3 := Lib.hid hin
          have hq3 := Lib.hid hq
          have hqi3 := Lib.hid hqi
          have hi4 := Lib.hid hi1
          have hqD' : (q : Int) < (D2.length : Int) := Int.ofNat_lt.2 hqD
          clear hi hqi hi1
          go_wp2_with fail
          refine start_ (n := 12) (S := fun w' => w'.cell? ⟨b, q * 2 + 1, none⟩ = some (.int .i64 y.f1) ∧ w'.cell? ⟨b, i * 2 + 1, none⟩ = some (.int .i64 z.f1)) (ds := []) #[false, false, false, false, false, false, false, false, false, false, false, false] (by kernel_rfl) rfl rfl ⟨x1, x2⟩ (fun hHeld => ?_)
          refine pure_ (i := 0) (N := some 94) (v := ?_) (a' := ?_) #[true, false, false, false, false, false, false, false, false, false, false, false] rfl rfl (by kernel_rfl) (fun _ _ _ h => h) (Or.inl ⟨by rfl, ?_⟩) ?_ ?_
          rotate_left
          · intro w'
            go_simp
            first | with_reducible rfl | rfl
          rotate_left
          · simp only [Act.put, List.setIfInBounds_toArray, List.set_cons_zero, List.set_cons_succ, i64_w, i32_w]
            rfl
          refine pure_ (i := 1) (N := some 95) (v := ?_) (a' := ?_) #[true, true, false, false, false, false, false, false, false, false, false, false] rfl rfl (by kernel_rfl) (fun _ _ _ h => h) (Or.inl ⟨by rfl, ?_⟩) ?_ ?_
          rotate_left
          · intro w'
            go_simp
            first | with_reducible rfl | rfl
          rotate_left
          · simp only [Act.put, List.setIfInBounds_toArray, List.set_cons_zero, List.set_cons_succ, i64_w, i32_w]
            rfl
          refine pure_ (i := 2) (N := some 96) (v := ?_) (a' := ?_) #[true, true, true, false, false, false, false, false, false, false, false, false] rfl rfl (by kernel_rfl) (fun _ _ _ h => h) (Or.inl ⟨by rfl, ?_⟩) ?_ ?_
          rotate_left
          · intro w'
            go_simp
            first | with_reducible rfl | rfl
          rotate_left
          · simp only [Act.put, List.setIfInBounds_toArray, List.set_cons_zero, List.set_cons_succ, i64_w, i32_w]
            rfl
          refine pure_ (i := 3) (N := some 97) (v := ?_) (a' := ?_) #[true, true, true, true, false, false, false, false, false, false, false, false] rfl rfl (by kernel_rfl) (fun _ _ _ h => h) (Or.inl ⟨by rfl, ?_⟩) ?_ ?_
          rotate_left
          · intro w'
            go_simp
            first | with_reducible rfl | rfl
          rotate_left
          · simp only [Act.put, List.setIfInBounds_toArray, List.set_cons_zero, List.set_cons_succ, i64_w, i32_w]
            rfl
          refine pure_ (i := 4) (N := some 98) (v := ?_) (a' := ?_) #[true, true, true, true, true, false, false, false, false, false, false, false] rfl rfl (by kernel_rfl) (fun _ _ _ h => h) (Or.inl ⟨by rfl, ?_⟩) ?_ ?_
          rotate_left
          · intro w'
            go_simp
            first | with_reducible rfl | rfl
          rotate_left
          · simp only [Act.put, List.setIfInBounds_toArray, List.set_cons_zero, List.set_cons_succ, i64_w, i32_w]
            rfl
          refine pure_ (i := 6) (N := some 100) (v := ?_) (a' := ?_) #[true, true, true, true, true, false, true, false, false, false, false, false] rfl rfl (by kernel_rfl) (fun _ _ _ h => h) (Or.inl ⟨by rfl, ?_⟩) ?_ ?_
          rotate_left
          · intro w'
            go_simp
            first | with_reducible rfl | rfl
          rotate_left
          · simp only [Act.put, List.setIfInBounds_toArray, List.set_cons_zero, List.set_cons_succ, i64_w, i32_w]
            rfl
          refine pure_ (i := 7) (N := some 101) (v := ?_) (a' := ?_) #[true, true, true, true, true, false, true, true, false, false, false, false] rfl rfl (by kernel_rfl) (fun _ _ _ h => h) (Or.inl ⟨by rfl, ?_⟩) ?_ ?_
          rotate_left
          · intro w'
            go_simp
            first | with_reducible rfl | rfl
          rotate_left
          · simp only [Act.put, List.setIfInBounds_toArray, List.set_cons_zero, List.set_cons_succ, i64_w, i32_w]
            rfl
          refine pure_ (i := 8) (N := some 102) (v := ?_) (a' := ?_) #[true, true, true, true, true, false, true, true, true, false, false, false] rfl rfl (by kernel_rfl) (fun _ _ _ h => h) (Or.inl ⟨by rfl, ?_⟩) ?_ ?_
          rotate_left
          · intro w'
            go_simp
            first | with_reducible rfl | rfl
          rotate_left
          · simp only [Act.put, List.setIfInBounds_toArray, List.set_cons_zero, List.set_cons_succ, i64_w, i32_w]
            rfl
          refine pure_ (i := 9) (N := some 103) (v := ?_) (a' := ?_) #[true, true, true, true, true, false, true, true, true, true, false, false] rfl rfl (by kernel_rfl) (fun _ _ _ h => h) (Or.inl ⟨by rfl, ?_⟩) ?_ ?_
          rotate_left
          · intro w'
            go_simp
            first | with_reducible rfl | rfl
          rotate_left
          · simp only [Act.put, List.setIfInBounds_toArray, List.set_cons_zero, List.set_cons_succ, i64_w, i32_w]
            rfl
          refine take_ (i := 5) (N := some 99) (v := ?_) (a' := ?_) #[true, true, true, true, true, true, true, true, true, true, false, false] rfl rfl (by kernel_rfl) (fun _ _ _ h => h) (Or.inl ⟨by rfl, ?_⟩) hHeld ?_ ?_
          rotate_left
          · rintro w' ⟨s0, s1⟩
            go_simp
            first | with_reducible rfl | rfl
          rotate_left
          · simp only [Act.put, List.setIfInBounds_toArray, List.set_cons_zero, List.set_cons_succ, i64_w, i32_w]
            rfl
          refine take_ (i := 10) (N := some 104) (v := ?_) (a' := ?_) #[true, true, true, true, true, true, true, true, true, true, true, false] rfl rfl (by kernel_rfl) (fun _ _ _ h => h) (Or.inl ⟨by rfl, ?_⟩) hHeld ?_ ?_
          rotate_left
          · rintro w' ⟨s0, s1⟩
            go_simp
            first | with_reducible rfl | rfl
          rotate_left
          · simp only [Act.put, List.setIfInBounds_toArray, List.set_cons_zero, List.set_cons_succ, i64_w, i32_w]
            rfl
          refine pure_ (i := 11) (N := some 105) (v := ?_) (a' := ?_) #[true, true, true, true, true, true, true, true, true, true, true, true] rfl rfl (by kernel_rfl) (fun _ _ _ h => h) (Or.inl ⟨by rfl, ?_⟩) ?_ ?_
          rotate_left
          · intro w'
            go_simp
            first | with_reducible rfl | rfl
          rotate_left
          · simp only [Act.put, List.setIfInBounds_toArray, List.set_cons_zero, List.set_cons_succ, i64_w, i32_w]
            rfl
          refine done_ (by kernel_rfl) ?_
          go_wp2_with fail
          go_roundw
          case rel => exact ⟨i + 1, Nat.succ_le_succ (Nat.zero_le _), .inl hin3.out, by go_num, H6.out.step (Below.refl _ _).drew⟩
          case measure =>
            have := hin3.out
            clear hws hwv hwa hwb hmin hmax hJ t1 tk1 tk2 hq
            simp [intOf]
            omega
        · have e0 : ¬ ((i : Int) < (D2.length : Int)) := fun h => hin (Int.ofNat_lt.1 h)
          have hin3 := Lib.hid hin
          clear hi hi1 hin
          go_wp2_with fail
          have hsz := hsn3.out
          exact ⟨⟨s + 1, Ln, ea2, la2, hsz, by go_num, by rw [hwe.out], by rw [hwl.out], hall.out, hLn.out, he2.out, hl2.out, hgn1.out, hgn2.out, H6.out.sub (.cons _ (List.Sublist.refl _))⟩, by simp [intOf]; omega⟩
    · have e0 : ¬ ((s : Int) < (n : Int)) := by omega
      obtain ⟨hb1, hb2, hsg, hm1, hm2⟩ := late_end he hl hLl hs hn
      have hw1 := wadd hb1
      have hw2 := wadd hb2
      clear hb1 hb2
      generalize mkw J1 Ls s = W1 at *
      generalize mkw J2 Ls s = W2 at *
      have hs1 := Lib.hid hgd1.sorted
      have hs2 := Lib.hid hgd2.sorted
      clear hgd1 hgd2 hL hLl he hl
      have N5 := waitH (g := g1) (pv := .slice (some ⟨pb1, 0, none⟩) 1 pc1) (now := s) (ws := W1) HS.out (by simp) hs1.out hm1
      have hlm1 : (W1.map W3.due).length = W1.length := List.length_map _
      have hlm2 : (W2.map W3.due).length = W2.length := List.length_map _
      rw [← hlm1] at hw1 hsg
      rw [← hlm2] at hw2 hsg
      generalize hM1 : W1.map W3.due = M1 at *
      replace hlm1 := Lib.hid hlm1
      replace N5 := Lib.hid N5
      have hm2' := Lib.hid hm2
      generalize hS1 : ea + M1.length = sm at *
      replace hS1 := Lib.hid hS1
      replace hsg := Lib.hid hsg
      replace hw2 := Lib.hid hw2
      replace hlm2 := Lib.hid hlm2
      clear hm1 hm2
      go_wp2_with fail
      refine N5.out.mono ?_
      rintro e w5 ⟨A5, k5, _, rfl, H7⟩
      have N6 := waitH (g := g2) (pv := .slice (some ⟨pb2, 0, none⟩) 1 pc2) (now := s) (ws := W2) H7 (by simp) hs2.out hm2'.out
      replace hw2 := hw2.out
      have hsg' := hsg.out
      rw [← hsg'] at hw2
      clear hsg hsg' hlm2
      generalize W2.map W3.due = M2 at *
      replace H7 := Lib.hid H7
      replace N6 := Lib.hid N6
      clear N5
      go_wp2_with fail
      refine N6.out.mono ?_
      rintro e w6 ⟨A6, k6, _, rfl, H8⟩
      replace H8 := Lib.hid H8
      clear N6 H7
      go_wp2_with fail
      refine (known_walk _).mono ?_
      rintro e wk ⟨rfl, hbk⟩
      have HZ := Lib.hid (H8.out.below.trans (hbk.mono H8.out.size))
      clear hbk
      go_wp2_with fail
      go_ret
      exact ⟨rfl, HZ.out⟩
set_option maxRecDepth 100000 in
set_option maxHeartbeats 8000000 in
theorem late_no (p j0 j1 : Int) (n : Nat) (w : World) (hok : ¬ PsOk [p]) (hn : n < 256) : Calls Try.prog 9 #[.int .i64 p, .agg #[.int .u8 j0, .int .u8 j1], .int .u8 (n : Int)] w fun e w' => e = .returned (.bool true) ∧ Below w.heap.size w w' := by
  have H0 := Lib.hid (Has.empty (Below.refl w.heap.size w))
  have H1 := Lib.hid (H0.out.box 56 #[.int .u8 j0, .int .u8 j1])
  have hn' := Lib.hid hn
  have hwv : wrap64 (n : Int) = (n : Int) := wrapIn (by omega)
  have N1 := newNo (ps := [p]) (W := ((w.alloc (.cells #[.int .u8 j0, .int .u8 j1] 56)).alloc (.cells #[.int .i64 p] 3))) (pk_row (w.alloc (.cells #[.int .u8 j0, .int .u8 j1] 56)) [p]) hok
  rw [show (w.alloc (.cells #[.int .u8 j0, .int .u8 j1] 56)).heap.size = w.heap.size + 1 by simp] at N1
  have N2 := newNo (ps := [p]) (W := (((w.alloc (.cells #[.int .u8 j0, .int .u8 j1] 56)).alloc (.cells #[.int .i64 p] 3)).alloc (.cells #[.int .i64 p] 3))) (pk_row ((w.alloc (.cells #[.int .u8 j0, .int .u8 j1] 56)).alloc (.cells #[.int .i64 p] 3)) [p]) hok
  rw [show ((w.alloc (.cells #[.int .u8 j0, .int .u8 j1] 56)).alloc (.cells #[.int .i64 p] 3)).heap.size = w.heap.size + 2 by simp] at N2
  have H2 := Lib.hid ((H1.out.step ((Below.refl _ _).alloc (Nat.le_refl _) (.cells #[.int .i64 p] 3))).step ((Below.refl _ _).alloc (Nat.le_refl _) (.cells #[.int .i64 p] 3)))
  replace N1 := Lib.hid N1
  replace N2 := Lib.hid N2
  clear H1 H0 hok
  go_enter Try.func9, Try.ntmps9
  go_wp2_with fail
  refine N1.out.mono ?_
  rintro e w1 ⟨rfl, hw1⟩
  rw [← hw1]
  clear hw1 w1 N1
  go_wp2_with fail
  refine N2.out.mono ?_
  rintro e w2 ⟨rfl, hw2⟩
  rw [← hw2]
  clear hw2 w2 N2
  go_wp2_with fail
  refine (known_walk _).mono ?_
  rintro e wk ⟨rfl, hbk⟩
  have HZ := Lib.hid (H2.out.below.trans (hbk.mono H2.out.size))
  clear hbk
  go_wp2_with fail
  go_ret
  exact ⟨rfl, HZ.out⟩
theorem late_walk (p j0 j1 v : Int) (w : World) (h0 : 0 ≤ j0 ∧ j0 < 256) (h1 : 0 ≤ j1 ∧ j1 < 256) (hv : 0 ≤ v ∧ v < 256) : Calls Try.prog 9 #[.int .i64 p, .agg #[.int .u8 j0, .int .u8 j1], .int .u8 v] w fun e w' => e = .returned (.bool true) ∧ Below w.heap.size w w' := by
  obtain ⟨n, rfl⟩ : ∃ n : Nat, v = (n : Int) := ⟨v.toNat, by omega⟩
  have hn : n < 256 := by omega
  by_cases hok : PsOk [p]
  · by_cases h : j1 < j0
    · exact late_core p j0 j1 j1 j0 n w hok (if_pos h) (if_neg (by omega)) (by omega) hn
    · by_cases h' : j0 < j1
      · exact late_core p j0 j1 j0 j1 n w hok (if_neg h) (if_pos h') (by omega) hn
      · exact late_core p j0 j1 j0 j0 n w hok (if_neg h) (if_neg h') (by omega) hn
  · exact late_no p j0 j1 n w hok hn
end Go.Proofs.Ytdpfbmhdbnkdaaa.Tm
