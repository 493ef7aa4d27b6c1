/- The reference's Waiting: what waits, told in a row of its own. -/
import Derived.Test.YtdpfbmhdbnkdaaaTmPut
set_option linter.unusedVariables false
set_option linter.unusedSimpArgs false
namespace Go.Proofs.Ytdpfbmhdbnkdaaa.Tm
open Go Go.RowKit Go.Proofs.YtdpfbmhdbnkdaaaW.PrintWords Go.Proofs.YtdpfbmhdbnkdaaaW.PrintLast Go.Proofs.YtdpfbmhdbnkdaaaW.PrintMore Go.Proofs.Ytdpfbmhdbnkdaaa Go.Proofs.Ytdpfbmhdbnkdaaa.Print
attribute [local go_sem] max2_int min2_int max_two min_two
theorem info58 : (Try.prog.info? 58).map (fun i => (i.zero, i.size, i.bytes)) = some (some (.agg #[.int .i64 0, .int .i64 0]), 2, 16) := by kernel_rfl
/-- a row of the reference's releases -/
def dueR (v : Value) (l : List S48) : Asn := rowA 58 2 l.length v (l.flatMap enc2)
theorem dueR_app (v : Value) (l D : List S48) : rowA 58 2 (l.length + D.length) v (l.flatMap enc2 ++ D.flatMap enc2) = dueR v (l ++ D) := by
  unfold dueR
  rw [List.length_append, flat_append]
theorem dueR_nil (w0 W : World) {L : List Asn} (h : Has w0 W L) : Has w0 W (dueR (.slice none 0 0) [] :: L) := h.add (Below.refl _ _) [] (by simp) ⟨rfl, rfl, .inl ⟨rfl, rfl⟩⟩
theorem Has.due1 {w0 W : World} {L : List Asn} (h : Has w0 W L) (x : S48) : Has w0 (W.alloc (.cells #[.int .i64 x.f0, .int .i64 x.f1] 58)) (dueR (.slice (some ⟨W.heap.size, 0, none⟩) 1 1) [x] :: L) :=
  h.add ((Below.refl _ _).alloc (Nat.le_refl _) _) [W.heap.size] (by simp) ⟨rfl, by simp [enc2], .inr ⟨_, 1, _, rfl, Nat.zero_le _, heap_alloc_new W _, by simp, by decide, by simp [enc2], by simp [enc2]⟩⟩
theorem map_take_next (l : List W3) (i : Nat) (y : W3) (h : l[i]? = some y) : (l.take (i + 1)).map W3.due = (l.take i).map W3.due ++ [(⟨y.t, y.n⟩ : S48)] := by
  rw [take_next l i y h, List.map_append]
  rfl
def RWaitRel (w0 W : World) (L : List Asn) (l : List W3) (vo vi : Value) (wr : World) : Prop := ∃ (i : Nat) (A : Option Addr) (c : Nat) (D : List S48), i ≤ l.length ∧ vi = .int .i64 i ∧ vo = .slice A D.length c ∧ D = (l.take i).map W3.due ∧ D.length = i ∧ Has w0 wr (dueR (.slice A D.length c) D :: L) ∧ Has W wr [dueR (.slice A D.length c) D]
set_option maxRecDepth 100000 in
set_option maxHeartbeats 4000000 in
theorem refWait {w0 W : World} {L1 L2 : List Asn} {g : Nat} {pv v : Value} {now : Nat} {l : List W3} (h : Has w0 W (L1 ++ refA g pv now v l :: L2)) (hl : l.length ≤ 100000) : Calls Try.prog 19 #[.pointer (some ⟨g, 0, none⟩)] W fun e w' => ∃ A c, e = .returned (.slice A l.length c) ∧ Has w0 w' (dueR (.slice A l.length c) (l.map W3.due) :: (L1 ++ refA g pv now v l :: L2)) ∧ Below W.heap.size W w' := by
  have H0 := Lib.hid (dueR_nil _ _ h)
  have H1 := Lib.hid (dueR_nil _ _ (Has.empty (Below.refl W.heap.size W)))
  clear h
  go_enter Try.func19, Try.ntmps19
  go_wp2_with fail
  go_loopw [3, 4] (fun vo vi wr => RWaitRel w0 W (L1 ++ refA g pv now v l :: L2) l vo vi wr) (fun _ vi _ => l.length - (intOf vi).toNat)
  case atStart => exact ⟨0, none, 0, [], Nat.zero_le _, rfl, rfl, rfl, rfl, H0.out, H1.out⟩
  case round =>
    obtain ⟨i, Ao, co, D, hi, rfl, rfl, hD, hDl, HS, HT⟩ := hrel
    replace HS := Lib.hid HS
    replace HT := Lib.hid HT
    clear H0 H1
    obtain ⟨g0, g1, g2, A, c, rfl, hrow⟩ := ref_cells (g := g) (pv := pv) (v := v) (now := now) (l := l) HS.out (by simp)
    replace hrow := Lib.hid hrow
    replace hD := Lib.hid hD
    by_cases hin : i < l.length
    · have hin' : (i : Int) < (l.length : Int) := Int.ofNat_lt.2 hin
      obtain ⟨y, hy⟩ : ∃ y, l[i]? = some y := ⟨l[i], List.getElem?_eq_getElem hin⟩
      obtain ⟨b, rfl, y0, y1, y2⟩ := row_wait hrow.out rfl i y hy
      have tk : decide (l.length ≤ i) = false := decide_eq_false (Nat.not_le.2 hin)
      have hi9 : i < 100000 := Nat.lt_of_lt_of_le hin hl
      have hD9 : D.length < 100000 := by omega
      have hy' := Lib.hid hy
      have hin3 := Lib.hid hin
      replace hDl := Lib.hid hDl
      clear hy hi hin
      have K0 := Lib.hid (Has.due1 (L := [] ++ dueR (.slice Ao D.length co) D :: (L1 ++ refA g pv now (.slice (some ⟨b, 0, none⟩) l.length c) l :: L2)) HS.out (⟨y.t, y.n⟩ : S48))
      have J0 := Lib.hid (Has.due1 (L := [] ++ dueR (.slice Ao D.length co) D :: []) HT.out (⟨y.t, y.n⟩ : S48))
      go_wp2_with (first | (at_builtin; refine wpList_append_row _ rfl (.tmp 14) (.tmp 23) 35 58 _ 2 16 rfl Try.underlying35 info58 rfl (by decide) (by decide) (.slice Ao D.length co) D.length (D.flatMap enc2) ([(⟨y.t, y.n⟩ : S48)].flatMap enc2) (some ⟨wr.heap.size, 0, none⟩) 1 1 rfl rfl (flat_one [(⟨y.t, y.n⟩ : S48)]) ?hO ?hD ?len ?go) | fail)
      case hO => exact Has.row K0.out (by simp [dueR])
      case hD => exact Has.row K0.out (by simp [dueR])
      case len => omega
      case go =>
        intro v1 wrb hrow hg hat
        have K1 := Has.grow (L1 := dueR (.slice (some ⟨wr.heap.size, 0, none⟩) 1 1) [(⟨y.t, y.n⟩ : S48)] :: []) (L2 := (L1 ++ refA g pv now (.slice (some ⟨b, 0, none⟩) l.length c) l :: L2)) (v := .slice Ao D.length co) K0.out hg hrow (hat.imp id (fun h => by simpa using h))
        have J1 := Has.grow (L1 := dueR (.slice (some ⟨wr.heap.size, 0, none⟩) 1 1) [(⟨y.t, y.n⟩ : S48)] :: []) (L2 := []) (v := .slice Ao D.length co) J0.out hg hrow (hat.imp id (fun h => by simpa using h))
        replace J1 := (dueR_app v1 D [(⟨y.t, y.n⟩ : S48)]) ▸ J1
        replace K1 := (dueR_app v1 D [(⟨y.t, y.n⟩ : S48)]) ▸ K1
        obtain ⟨Awr, cwr, rfl, hcwr⟩ := LRow.slice hrow
        clear hrow hg hat K0 J0
        have H6 := Lib.hid (show Has w0 wrb (dueR (.slice Awr (D ++ [(⟨y.t, y.n⟩ : S48)]).length cwr) (D ++ [(⟨y.t, y.n⟩ : S48)]) :: (L1 ++ refA g pv now (.slice (some ⟨b, 0, none⟩) l.length c) l :: L2)) from by
          rw [List.length_append]
          exact K1.sub ((List.Sublist.refl _).cons _))
        have J6 := Lib.hid (show Has W wrb [dueR (.slice Awr (D ++ [(⟨y.t, y.n⟩ : S48)]).length cwr) (D ++ [(⟨y.t, y.n⟩ : S48)])] from by
          rw [List.length_append]
          exact J1.sub ((List.Sublist.refl _).cons _))
        clear K1 J1
        go_wp2_with fail
        go_roundw
        case rel => exact ⟨i + 1, Awr, cwr, D ++ [(⟨y.t, y.n⟩ : S48)], hin3.out, by go_num, by rw [List.length_append]; rfl, by rw [hD.out]; exact (map_take_next l i y hy'.out).symm, by rw [List.length_append, hDl.out]; rfl, H6.out, J6.out⟩
        case measure => have := hin3.out; clear tk; simp [intOf]; omega
    · have e0 : ¬ ((i : Int) < (l.length : Int)) := fun h => hin (Int.ofNat_lt.1 h)
      have hie : i = l.length := by omega
      have hD2 : D = l.map W3.due := by rw [hD.out, hie, List.take_length]
      have hDl2 : D.length = l.length := by rw [hDl, hie]
      have HF := HS.out
      rw [hDl2, hD2] at HF
      replace HF := Lib.hid HF
      replace hD2 := Lib.hid hD2
      replace hDl2 := Lib.hid hDl2
      clear hi hin hie hDl
      go_wp2_with fail
      go_ret
      exact ⟨Ao, co, by first | rfl | (rw [← hDl2.out]; rfl), HF.out, HT.out.below⟩
end Go.Proofs.Ytdpfbmhdbnkdaaa.Tm
