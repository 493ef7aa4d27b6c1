/- Rows of releases, and of whole numbers, of the call's own: their cells; a cell that is written. -/
import Derived.Test.YtdpfbmhdbnkdaaaTmPlain
import Derived.Test.YtdpfbmhdbnkdaaaPrint2
import Derived.WalkKit
import Derived.KernelRfl
import Derived.Lib.Hide
import Derived.StillTailTactics
import Derived.Deep.QuietTactic
import Derived.BigQuiet
import Derived.WalkSpells
set_option linter.unusedVariables false
set_option linter.unusedSimpArgs false
namespace Go.Proofs.Ytdpfbmhdbnkdaaa.Tm
open Go Go.RowKit Go.Proofs.YtdpfbmhdbnkdaaaW.PrintWords Go.Proofs.YtdpfbmhdbnkdaaaW.PrintLast Go.Proofs.YtdpfbmhdbnkdaaaW.PrintMore Go.Proofs.Ytdpfbmhdbnkdaaa Go.Proofs.Ytdpfbmhdbnkdaaa.Print
attribute [local go_sem] max2_int min2_int max_two min_two
def enc2 (x : S48) : List Value := [.int .i64 x.f0, .int .i64 x.f1]
theorem enc2_len (x : S48) : (enc2 x).length = 2 := rfl
theorem flat_len (l : List S48) : (l.flatMap enc2).length = l.length * 2 := by
  induction l with
  | nil => rfl
  | cons x l ih => rw [List.flatMap_cons, List.length_append, ih, enc2_len, List.length_cons]; omega
theorem flat_get (l : List S48) : ∀ (j i : Nat), i < 2 → (l.flatMap enc2)[j * 2 + i]? = (l[j]?).bind fun x => (enc2 x)[i]? := by
  induction l with
  | nil => intro j i _; simp
  | cons x l ih =>
    intro j i hi
    rw [List.flatMap_cons]
    cases j with
    | zero =>
      rw [Nat.zero_mul, Nat.zero_add, List.getElem?_append_left (by rw [enc2_len]; exact hi)]
      rfl
    | succ j =>
      rw [List.getElem?_append_right (by rw [enc2_len]; omega), enc2_len, show (j + 1) * 2 + i - 2 = j * 2 + i by omega, ih j i hi]
      rfl
theorem flat_one (l : List S48) : ∀ u ∈ l.flatMap enc2, u.oneCell' = true := by
  intro u hu
  obtain ⟨x, _, hx⟩ := List.mem_flatMap.1 hu
  simp only [enc2, List.mem_cons, List.not_mem_nil, or_false] at hx
  rcases hx with rfl | rfl <;> rfl
theorem flat_append (l m : List S48) : (l ++ m).flatMap enc2 = l.flatMap enc2 ++ m.flatMap enc2 := List.flatMap_append
/-- a row of releases of the call's own -/
def RowIs (w : World) (B : Nat) (v : Value) (l : List S48) : Prop := LRow w B 48 2 v l.length (l.flatMap enc2)
theorem RowIs.step {w w1 : World} {B : Nat} {v : Value} {l : List S48} (h : RowIs w B v l) (hb : Below w.heap.size w w1) : RowIs w1 B v l := h.move (fun k hk => hb.block k (h.lt k hk).1)
theorem RowIs.nil (w : World) (B : Nat) : RowIs w B (.slice none 0 0) [] := ⟨rfl, .inl ⟨rfl, rfl⟩⟩
theorem add_plain (b o : Nat) : (⟨b, 0, none⟩ : Addr).add o = ⟨b, o, none⟩ := by unfold Addr.add; split <;> simp_all
theorem LRow.low {w : World} {B B' e size n : Nat} {v : Value} {xs : List Value} (h : LRow w B e size v n xs) (hb : B' ≤ B) : LRow w B' e size v n xs := by
  obtain ⟨h1, h2⟩ := h
  refine ⟨h1, ?_⟩
  rcases h2 with h2 | ⟨g, cap, cur, h3, h4, h5⟩
  · exact .inl h2
  · exact .inr ⟨g, cap, cur, h3, Nat.le_trans hb h4, h5⟩
theorem RowIs.elem {w : World} {B c : Nat} {A : Option Addr} {l : List S48} (h : RowIs w B (.slice A l.length c) l) (j : Nat) (hj : j < l.length) :
    ∃ b, A = some ⟨b, 0, none⟩ ∧ w.cell? ⟨b, j * 2, none⟩ = some (.int .i64 (l.getD j z48).f0) ∧ w.cell? ⟨b, j * 2 + 1, none⟩ = some (.int .i64 (l.getD j z48).f1) := by
  obtain ⟨h1, h2⟩ := id h
  rcases h2 with ⟨h3, h4⟩ | ⟨b, cap, cur, h3, _⟩
  · omega
  · injection h3 with h3 h4 h5
    subst h3 h5
    have hget : l[j]? = some (l.getD j z48) := by rw [List.getD_eq_getElem?_getD, List.getElem?_eq_getElem hj]; rfl
    refine ⟨b, rfl, ?_, ?_⟩
    · have := LRow.cell h (j * 2) (.int .i64 (l.getD j z48).f0) (by have := flat_get l j 0 (by omega); rw [Nat.add_zero] at this; rw [this, hget]; rfl)
      rwa [add_plain] at this
    · have := LRow.cell h (j * 2 + 1) (.int .i64 (l.getD j z48).f1) (by rw [flat_get l j 1 (by omega), hget]; rfl)
      rwa [add_plain] at this
/-- a cell of such a row is written -/
theorem LRow.put {w : World} {B e size n c g : Nat} {xs : List Value} (h : LRow w B e size (.slice (some ⟨g, 0, none⟩) n c) n xs) (j : Nat) (u : Value) : LRow (w.setCell ⟨g, j, none⟩ u) B e size (.slice (some ⟨g, 0, none⟩) n c) n (xs.set j u) := by
  obtain ⟨h1, h2⟩ := h
  refine ⟨by rw [List.length_set]; exact h1, ?_⟩
  rcases h2 with ⟨h3, _⟩ | ⟨g', cap, cur, h3, h4, h5, h6, h7, h8, h9⟩
  · cases h3
  · injection h3 with h3 _ h3c
    injection h3 with h3
    injection h3 with h3
    subst h3 h3c
    refine .inr ⟨g, c, cur.setIfInBounds j u, rfl, h4, blk_set h5 j u, h6, h7, by rw [Array.size_setIfInBounds]; exact h8, ?_⟩
    rw [Array.toList_setIfInBounds, List.take_set, h9]
theorem RowIs.frozen {w : World} {B c g n : Nat} {l : List S48} (h : RowIs w B (.slice (some ⟨g, 0, none⟩) n c) l) (o : Nat) : w.frozen? ⟨g, o, none⟩ = false := by
  obtain ⟨_, _, cur, hc⟩ := LRow.lt h g rfl
  exact blk_frozen hc o
theorem flat_set (l : List S48) (j : Nat) (y : S48) : (l.set j y).flatMap enc2 = ((l.flatMap enc2).set (j * 2) (.int .i64 y.f0)).set (j * 2 + 1) (.int .i64 y.f1) := by
  apply List.ext_getElem?
  intro i
  obtain ⟨q, r, hr, rfl⟩ : ∃ q r, r < 2 ∧ i = q * 2 + r := ⟨i / 2, i % 2, by omega, by omega⟩
  rw [flat_get _ q r hr, List.getElem?_set, List.getElem?_set, List.getElem?_set, flat_get _ q r hr, List.length_set, flat_len]
  by_cases hq : j = q
  · subst hq
    rw [if_pos rfl]
    by_cases hl : j < l.length
    · rw [if_pos hl]
      match r, hr with
      | 0, _ => rw [if_neg (by omega), if_pos (by omega), if_pos (by omega)]; rfl
      | 1, _ => rw [if_pos (by omega), if_pos (by omega)]; rfl
    · rw [if_neg hl]
      have : l[j]? = none := List.getElem?_eq_none (by omega)
      match r, hr with
      | 0, _ => rw [if_neg (by omega), if_pos (by omega), if_neg (by omega)]; rfl
      | 1, _ => rw [if_pos (by omega), if_neg (by omega)]; rfl
  · rw [if_neg hq]
    match r, hr with
    | 0, _ => rw [if_neg (by omega), if_neg (by omega)]
    | 1, _ => rw [if_neg (by omega), if_neg (by omega)]
theorem RowIs.put {w : World} {B c g : Nat} {l : List S48} (h : RowIs w B (.slice (some ⟨g, 0, none⟩) l.length c) l) (j : Nat) (a b : Int) : RowIs ((w.setCell ⟨g, j * 2, none⟩ (.int .i64 a)).setCell ⟨g, j * 2 + 1, none⟩ (.int .i64 b)) B (.slice (some ⟨g, 0, none⟩) (l.set j ⟨a, b⟩).length c) (l.set j ⟨a, b⟩) := by
  have h1 := LRow.put (LRow.put h (j * 2) (.int .i64 a)) (j * 2 + 1) (.int .i64 b)
  unfold RowIs
  rw [flat_set, List.length_set]
  exact h1
theorem info48 : (Try.prog.info? 48).map (fun i => (i.zero, i.size, i.bytes)) = some (some (.agg #[.int .i64 0, .int .i64 0]), 2, 16) := by kernel_rfl
theorem info3 : (Try.prog.info? 3).map (fun i => (i.zero, i.size, i.bytes)) = some (some (.int .i64 0), 1, 8) := by kernel_rfl
/-! ### the timer in memory -/
/-- the pointer to block g holds a timer: its periods' row is the value pv, its map is block m -/
structure TimAt (W : World) (g m : Nat) (pv : Value) (now : Nat) (ws : List W3) : Prop where
  blk : W.heap[g]? = some (.cells #[pv, .int .i64 now, .map (some m)] 53 (0, 0))
  map : MapIs W m ws
section
variable {W W' : World} {g m : Nat} {pv : Value} {now : Nat} {ws : List W3}
theorem TimAt.lt (h : TimAt W g m pv now ws) : g < W.heap.size ∧ m < W.heap.size := ⟨(Array.getElem?_eq_some_iff.1 h.blk).1, h.map.lt⟩
theorem TimAt.ne (h : TimAt W g m pv now ws) : g ≠ m := by
  intro e
  obtain ⟨es, clock, h1, _⟩ := h.map
  have := h.blk
  rw [e, h1] at this
  cases this
theorem TimAt.move (h : TimAt W g m pv now ws) (h1 : W'.heap[g]? = W.heap[g]?) (h2 : W'.heap[m]? = W.heap[m]?) : TimAt W' g m pv now ws := ⟨h1.trans h.blk, h.map.move h2⟩
theorem TimAt.step (h : TimAt W g m pv now ws) (hb : Below W.heap.size W W') : TimAt W' g m pv now ws := h.move (hb.block g h.lt.1) (hb.block m h.lt.2)
theorem TimAt.c0 (h : TimAt W g m pv now ws) : W.cell? ⟨g, 0, none⟩ = some pv := (blk_cell h.blk 0).trans rfl
theorem TimAt.c1 (h : TimAt W g m pv now ws) : W.cell? ⟨g, 1, none⟩ = some (.int .i64 now) := (blk_cell h.blk 1).trans rfl
theorem TimAt.c2 (h : TimAt W g m pv now ws) : W.cell? ⟨g, 2, none⟩ = some (.map (some m)) := (blk_cell h.blk 2).trans rfl
theorem TimAt.fr (h : TimAt W g m pv now ws) (o : Nat) : W.frozen? ⟨g, o, none⟩ = false := blk_frozen h.blk o
/-- a map's block has no cells -/
theorem cell_ne_map {b o : Nat} {v : Value} (h : MapIs W m ws) (hc : W.cell? ⟨b, o, none⟩ = some v) : b ≠ m := by
  rintro rfl
  obtain ⟨es, clock, h1, _⟩ := h
  simp [World.cell?, h1] at hc
end
/-- the periods' row, wherever it lies -/
def PsAt (W : World) (b : Nat) (ps : List Int) : Prop := ∀ i, i < ps.length → W.cell? ⟨b, i, none⟩ = some (.int .i64 (ps.getD i 0))
/-! ### the small calls -/
theorem there_nil (w : World) : Calls Try.prog 21 #[.pointer none] w fun e w' => e = .returned (.bool false) ∧ w = w' := by
  go_enter Try.func21, Try.ntmps21
  go_wp2
  go_ret
  exact ⟨rfl, rfl⟩
theorem there_zero (w : World) (g : Nat) (h : w.cell? ⟨g, 2, none⟩ = some (.map none)) : Calls Try.prog 21 #[.pointer (some ⟨g, 0, none⟩)] w fun e w' => e = .returned (.bool false) ∧ w = w' := by
  have hq := Go.run_neq_map_nil (P := Try.prog) w 51 48 3 none Try.underlying51
  go_enter Try.func21, Try.ntmps21
  go_wp2
  go_ret
  exact ⟨rfl, rfl⟩
theorem there_is (w : World) (g m : Nat) (h : w.cell? ⟨g, 2, none⟩ = some (.map (some m))) : Calls Try.prog 21 #[.pointer (some ⟨g, 0, none⟩)] w fun e w' => e = .returned (.bool true) ∧ w = w' := by
  have hq := Go.run_neq_map_nil (P := Try.prog) w 51 48 3 (some m) Try.underlying51
  go_enter Try.func21, Try.ntmps21
  go_wp2
  go_ret
  exact ⟨rfl, rfl⟩
theorem now_nil (w : World) : Calls Try.prog 20 #[.pointer none] w fun e w' => e = .returned (.int .i64 0) ∧ w = w' := by
  go_enter Try.func20, Try.ntmps20
  go_wp2
  go_ret
  exact ⟨rfl, rfl⟩
theorem now_is (w : World) (g : Nat) (n : Int) (h : w.cell? ⟨g, 1, none⟩ = some (.int .i64 n)) : Calls Try.prog 20 #[.pointer (some ⟨g, 0, none⟩)] w fun e w' => e = .returned (.int .i64 n) ∧ w = w' := by
  go_enter Try.func20, Try.ntmps20
  go_wp2
  go_ret
  exact ⟨rfl, rfl⟩
end Go.Proofs.Ytdpfbmhdbnkdaaa.Tm
