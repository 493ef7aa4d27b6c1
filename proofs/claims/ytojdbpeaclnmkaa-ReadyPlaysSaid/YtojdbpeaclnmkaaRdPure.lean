/- PLAIN: what is put into a set, its best, what is left; the cells of an argument that is a row of jobs. -/
import Derived.Test.YtojdbpeaclnmkaaKnown
set_option linter.unusedVariables false
set_option linter.unusedSimpArgs false
namespace Go.Proofs.Ytojdbpeaclnmkaa.Rd
open Go Go.RowKit Go.Proofs.YtojdbpeaclnmkaaW.PrintWords Go.Proofs.YtojdbpeaclnmkaaW.PrintLast Go.Proofs.YtojdbpeaclnmkaaW.PrintMore Go.Proofs.Ytojdbpeaclnmkaa Go.Proofs.Ytojdbpeaclnmkaa.Print
theorem elemAt {w : World} {A : Option Addr} {l : List S30} (h : Kd.C k30 w A l.length l) (k : Nat) (hk : k < l.length) : ∃ ad, A = some ad ∧ ad.block < w.heap.size ∧ w.cell? (ad.add (k * 3)) = some (.int .i64 (l.getD k z30).f0) ∧
    w.cell? ⟨(ad.add (k * 3)).block, (ad.add (k * 3)).off + 1, none⟩ = some (.int .i64 (l.getD k z30).f1) ∧ w.cell? ⟨(ad.add (k * 3)).block, (ad.add (k * 3)).off + 2, none⟩ = some (.int .i64 (l.getD k z30).f2) := by
  obtain ⟨ad, h1, h2, h3, h4⟩ := at_T30 h (k : Int) (by omega) (by omega)
  unfold rd_T30 at h2 h3 h4
  rw [Int.toNat_natCast] at h2 h3 h4
  refine ⟨ad, h1, ?_, h2, h3, h4⟩
  have := World.block_lt_of_cell? w _ h2
  have e : (ad.add (k * 3)).block = ad.block := by unfold Addr.add; split <;> rfl
  rwa [e] at this
theorem add_block (ad : Addr) (n : Nat) : (ad.add n).block = ad.block := by unfold Addr.add; split <;> rfl
/-- .. in a later world -/
theorem elemIn {w0 w : World} {A : Option Addr} {l : List S30} (h : Kd.C k30 w0 A l.length l) (hb : Below w0.heap.size w0 w) (k : Nat) (hk : k < l.length) : ∃ ad, A = some ad ∧ w.cell? (ad.add (k * 3)) = some (.int .i64 (l.getD k z30).f0) ∧
    w.cell? ⟨(ad.add (k * 3)).block, (ad.add (k * 3)).off + 1, none⟩ = some (.int .i64 (l.getD k z30).f1) ∧ w.cell? ⟨(ad.add (k * 3)).block, (ad.add (k * 3)).off + 2, none⟩ = some (.int .i64 (l.getD k z30).f2) ∧ ad.block < w.heap.size := by
  obtain ⟨ad, h1, hlt, h2, h3, h4⟩ := elemAt h k hk
  have hl : (ad.add (k * 3)).block < w0.heap.size := by rw [add_block]; exact hlt
  exact ⟨ad, h1, (hb.cell hl).trans h2, (hb.cell (p := ⟨(ad.add (k * 3)).block, (ad.add (k * 3)).off + 1, none⟩) hl).trans h3, (hb.cell (p := ⟨(ad.add (k * 3)).block, (ad.add (k * 3)).off + 2, none⟩) hl).trans h4, Nat.lt_of_lt_of_le hlt hb.size⟩
/-- the jobs of those that are put into a set -/
def okJob (j : S30) : Bool := decide (1 ≤ j.f1) && decide (j.f1 ≤ 100)
def filt (l : List S30) : List S30 := l.filter okJob
theorem filt_snoc (l : List S30) (j : S30) : filt (l ++ [j]) = filt l ++ (if okJob j = true then [j] else []) := by
  unfold filt
  rw [List.filter_append, List.filter_cons]
  split <;> rfl
theorem filt_len (l : List S30) : (filt l).length ≤ l.length := List.length_filter_le _ _
def Good (l : List S30) : Prop := ∀ j ∈ l, 1 ≤ j.f1 ∧ j.f1 ≤ 100
theorem filt_good (l : List S30) : Good (filt l) := fun j hj => by
  have := (List.mem_filter.1 hj).2
  simpa [okJob] using this
theorem Good.erase {l : List S30} (h : Good l) (i : Nat) : Good (l.eraseIdx i) := fun j hj => h j (List.mem_of_mem_eraseIdx hj)
theorem fold_mem (l : List S30) : ∀ m : Int, l.foldl (fun m j => if m < j.f1 then j.f1 else m) m = m ∨ ∃ j ∈ l, j.f1 = l.foldl (fun m j => if m < j.f1 then j.f1 else m) m := by
  induction l with
  | nil => intro m; exact .inl rfl
  | cons x l ih =>
    intro m
    rw [List.foldl_cons]
    rcases ih (if m < x.f1 then x.f1 else m) with h | ⟨j, hj, h⟩
    · by_cases hx : m < x.f1
      · rw [if_pos hx] at h ⊢
        exact .inr ⟨x, List.mem_cons_self, h.symm⟩
      · rw [if_neg hx] at h ⊢
        exact .inl h
    · exact .inr ⟨j, List.mem_cons_of_mem _ hj, h⟩
theorem mxp_mem (l : List S30) (h : 0 < mxp l) : ∃ j ∈ l, j.f1 = mxp l := by
  rcases fold_mem l 0 with h1 | h1
  · have : mxp l = 0 := h1
    omega
  · exact h1
theorem placesFrom_pos (p : Int) : ∀ (l : List S30) (n : Nat), (∃ j ∈ l, j.f1 = p) → 0 < (placesFrom p n l).length := by
  intro l
  induction l with
  | nil => rintro n ⟨j, hj, _⟩; cases hj
  | cons x l ih =>
    rintro n ⟨j, hj, hp⟩
    rw [placesFrom]
    by_cases hx : x.f1 = p
    · rw [if_pos hx]; simp
    · rw [if_neg hx]
      rcases List.mem_cons.1 hj with rfl | hj
      · exact absurd hp hx
      · exact ih (n + 1) ⟨j, hj, hp⟩
theorem places_pos {l : List S30} (h : 0 < mxp l) : 0 < (places l (mxp l)).length := placesFrom_pos _ _ _ (mxp_mem l h)
theorem mxp_pos {l : List S30} (h : Good l) (hne : l ≠ []) : 0 < mxp l := by
  cases l with
  | nil => exact absurd rfl hne
  | cons x l =>
    have h1 := (h x List.mem_cons_self).1
    have h2 := mxp_ge (x :: l) x List.mem_cons_self
    omega
theorem mxp_nil : mxp [] = 0 := rfl
theorem mxp_zero {l : List S30} (h : Good l) (hz : mxp l = 0) : l = [] := by
  apply Classical.byContradiction
  intro hne
  have := mxp_pos h hne
  omega
theorem mxp_le {l : List S30} {b : Int} (h0 : 0 ≤ b) (h : ∀ j ∈ l, j.f1 ≤ b) : mxp l ≤ b := by
  by_cases hp : 0 < mxp l
  · obtain ⟨j, hj, he⟩ := mxp_mem l hp
    have := h j hj
    omega
  · omega
theorem mxp_erase (l : List S30) (i : Nat) : mxp (l.eraseIdx i) ≤ mxp l := mxp_le (mxp_nonneg l) (fun j hj => mxp_ge l j (List.mem_of_mem_eraseIdx hj))
theorem mxp_good {l : List S30} (h : Good l) : mxp l ≤ 100 := mxp_le (by omega) (fun j hj => (h j hj).2)
end Go.Proofs.Ytojdbpeaclnmkaa.Rd
