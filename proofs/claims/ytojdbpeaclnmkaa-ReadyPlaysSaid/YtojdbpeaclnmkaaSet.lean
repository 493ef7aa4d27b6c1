/- The set of released jobs: what it means that a pointer holds one, and what its calls make of it: a new one, a job put in. -/
import Derived.Test.YtojdbpeaclnmkaaLoose
import Derived.Test.YtojdbpeaclnmkaaPrint0
import Derived.WalkKit
import Derived.KernelRfl
import Derived.Lib.Hide
import Derived.StillTailTactics
set_option linter.unusedVariables false
set_option linter.unusedSimpArgs false
namespace Go.Proofs.Ytojdbpeaclnmkaa.Rd
open Go Go.RowKit Go.Proofs.YtojdbpeaclnmkaaW.PrintWords Go.Proofs.YtojdbpeaclnmkaaW.PrintLast Go.Proofs.YtojdbpeaclnmkaaW.PrintMore Go.Proofs.Ytojdbpeaclnmkaa Go.Proofs.Ytojdbpeaclnmkaa.Print
def enc3 (j : S30) : List Value := [.int .i64 j.f0, .int .i64 j.f1, .int .i64 j.f2]
theorem enc3_len (j : S30) : (enc3 j).length = 3 := rfl
theorem flat_len (l : List S30) : (l.flatMap enc3).length = l.length * 3 := by
  induction l with
  | nil => rfl
  | cons x l ih => rw [List.flatMap_cons, List.length_append, ih, enc3_len, List.length_cons]; omega
theorem flat_get (l : List S30) : ∀ (j i : Nat), i < 3 → (l.flatMap enc3)[j * 3 + i]? = (l[j]?).bind fun x => (enc3 x)[i]? := by
  induction l with
  | nil => intro j i _; simp
  | cons x l ih =>
    intro j i hi
    rw [List.flatMap_cons]
    cases j with
    | zero =>
      rw [Nat.zero_mul, Nat.zero_add, List.getElem?_append_left (by rw [enc3_len]; exact hi)]
      rfl
    | succ j =>
      rw [List.getElem?_append_right (by rw [enc3_len]; omega), enc3_len, show (j + 1) * 3 + i - 3 = j * 3 + i by omega, ih j i hi]
      rfl
theorem flat_one (l : List S30) : ∀ u ∈ l.flatMap enc3, u.oneCell' = true := by
  intro u hu
  obtain ⟨x, _, hx⟩ := List.mem_flatMap.1 hu
  simp only [enc3, List.mem_cons, List.not_mem_nil, or_false] at hx
  rcases hx with rfl | rfl | rfl <;> rfl
theorem flat_append (l m : List S30) : (l ++ m).flatMap enc3 = l.flatMap enc3 ++ m.flatMap enc3 := List.flatMap_append
/-- Below g's block and the block 'row' the world is as it was; what was not there before may be new. -/
structure Only (g : Nat) (row : Option Nat) (w w' : World) : Prop where
  os : w'.os = w.os
  tape : w'.tape = w.tape
  output : w'.output = w.output
  size : w.heap.size ≤ w'.heap.size
  block : ∀ k, k < w.heap.size → k ≠ g → some k ≠ row → w'.heap[k]? = w.heap[k]?
theorem Only.below {B g : Nat} {row : Option Nat} {w0 w w' : World} (h : Only g row w w') (hb : Below B w0 w) (hB : B ≤ w.heap.size) (hg : B ≤ g) (hr : ∀ k, row = some k → B ≤ k) : Below B w0 w' :=
  hb.trans ⟨h.os, h.tape, h.output, h.size, fun k hk => h.block k (by omega) (by omega) (fun e => by have := hr k e.symm; omega)⟩
theorem Only.of_below {w w' : World} (h : Below w.heap.size w w') (g : Nat) (row : Option Nat) : Only g row w w' := ⟨h.os, h.tape, h.output, h.size, fun k hk _ _ => h.block k hk⟩
theorem Only.of_grown {w w' : World} {row : Option Nat} (h : w.grownBy w' row) (g : Nat) : Only g row w w' := ⟨h.os, h.tape, h.output, h.size, fun k hk _ hr => h.block k hk hr⟩
theorem Only.trans {g : Nat} {row row' : Option Nat} {a b c : World} (h : Only g row a b) (k : Only g row' b c) (hr : row' = row ∨ ∃ n, row' = some n ∧ a.heap.size ≤ n) : Only g row a c :=
  ⟨k.os.trans h.os, k.tape.trans h.tape, k.output.trans h.output, Nat.le_trans h.size k.size, fun i hi hg hro => (k.block i (Nat.lt_of_lt_of_le hi h.size) hg (by
    rcases hr with rfl | ⟨n, rfl, hn⟩
    · exact hro
    · intro e
      injection e with e
      omega)).trans (h.block i hi hg hro)⟩
theorem Only.setCell {g : Nat} {row : Option Nat} {a w : World} (h : Only g row a w) (o : Nat) (u : Value) : Only g row a (w.setCell ⟨g, o, none⟩ u) :=
  ⟨h.os, h.tape, h.output, by simpa [World.setCell] using h.size, fun k hk hg hr => (Below.heap_setCell w ⟨g, o, none⟩ u k hg).trans (h.block k hk hg hr)⟩
/-- The pointer to block g holds a set (struct type T, jobs of type E) with the jobs l; v: the row's value; all of it from block B on. -/
structure SetIs (T E : Nat) (w : World) (B g : Nat) (v : Value) (l : List S30) : Prop where
  lo : B ≤ g
  blk : w.heap[g]? = some (.cells #[v] T (0, 0))
  row : LRow w B E 3 v l.length (l.flatMap enc3)
theorem SetIs.lt {T E : Nat} {w : World} {B g : Nat} {v : Value} {l : List S30} (h : SetIs T E w B g v l) : g < w.heap.size := (Array.getElem?_eq_some_iff.1 h.blk).1
theorem SetIs.cell {T E : Nat} {w : World} {B g : Nat} {v : Value} {l : List S30} (h : SetIs T E w B g v l) : w.cell? ⟨g, 0, none⟩ = some v := (cell_of_row w g 0 _ T (0, 0) h.blk).trans rfl
theorem SetIs.frozen {T E : Nat} {w : World} {B g : Nat} {v : Value} {l : List S30} (h : SetIs T E w B g v l) : w.frozen? ⟨g, 0, none⟩ = false := by simp [World.frozen?, h.blk]
theorem SetIs.move {T E : Nat} {w w1 : World} {B g : Nat} {v : Value} {l : List S30} (h : SetIs T E w B g v l) (h1 : w1.heap[g]? = w.heap[g]?) (h2 : ∀ k, v.ownBlock = some k → w1.heap[k]? = w.heap[k]?) : SetIs T E w1 B g v l := ⟨h.lo, h1.trans h.blk, h.row.move h2⟩
theorem SetIs.step {T E : Nat} {w w1 : World} {B g : Nat} {v : Value} {l : List S30} (h : SetIs T E w B g v l) (hb : Below w.heap.size w w1) : SetIs T E w1 B g v l := h.move (hb.block g h.lt) (fun k hk => hb.block k (h.row.lt k hk).1)
theorem SetIs.ne {T E : Nat} {w : World} {B g : Nat} {v : Value} {l : List S30} (h : SetIs T E w B g v l) (hTE : T ≠ E) : some g ≠ v.ownBlock := by
  intro e
  obtain ⟨_, _, cur, hc⟩ := h.row.lt g e.symm
  rw [h.blk] at hc
  injection hc with hc
  injection hc with _ hc
  exact hTE hc
/-- another set stays, if it shares no block -/
theorem SetIs.far {T E T' E' : Nat} {w w1 : World} {B B' g g' : Nat} {v v' : Value} {l l' : List S30} (h : SetIs T E w B g v l) (k : Only g' (v'.ownBlock) w w1) (hg : g ≠ g') (hgr : some g ≠ v'.ownBlock) (hrg : v.ownBlock ≠ some g') (hrr : v.ownBlock = none ∨ v.ownBlock ≠ v'.ownBlock) : SetIs T E w1 B g v l :=
  h.move (k.block g h.lt hg hgr) (fun q hq => k.block q (h.row.lt q hq).1 (fun e => hrg (by rw [hq, e])) (fun e => by
    rcases hrr with h1 | h1
    · rw [h1] at hq; cases hq
    · exact h1 (hq.trans e)))
theorem SetIs.slice {T E : Nat} {w : World} {B g : Nat} {v : Value} {l : List S30} (h : SetIs T E w B g v l) : ∃ A c, v = .slice A l.length c ∧ l.length ≤ c := h.row.slice
/-- The row's cells: element j. -/
theorem SetIs.elem {T E : Nat} {w : World} {B g c : Nat} {A : Option Addr} {l : List S30} (h : SetIs T E w B g (.slice A l.length c) l) (j : Nat) (hj : j < l.length) :
    ∃ b, A = some ⟨b, 0, none⟩ ∧ w.cell? ⟨b, j * 3, none⟩ = some (.int .i64 (l.getD j z30).f0) ∧ w.cell? ⟨b, j * 3 + 1, none⟩ = some (.int .i64 (l.getD j z30).f1) ∧ w.cell? ⟨b, j * 3 + 2, none⟩ = some (.int .i64 (l.getD j z30).f2) := by
  have hr := h.row
  obtain ⟨h1, h2⟩ := id hr
  rcases h2 with ⟨h3, h4⟩ | ⟨b, cap, cur, h3, _⟩
  · omega
  · injection h3 with h3 h4 h5
    subst h3 h5
    have e : ∀ i, (⟨b, 0, none⟩ : Addr).add i = ⟨b, i, none⟩ := by intro i; unfold Addr.add; split <;> simp_all
    have hget : l[j]? = some (l.getD j z30) := by rw [List.getD_eq_getElem?_getD, List.getElem?_eq_getElem hj]; rfl
    refine ⟨b, rfl, ?_, ?_, ?_⟩
    · have := hr.cell (j * 3) (.int .i64 (l.getD j z30).f0) (by have := flat_get l j 0 (by omega); rw [Nat.add_zero] at this; rw [this, hget]; rfl)
      rwa [e] at this
    · have := hr.cell (j * 3 + 1) (.int .i64 (l.getD j z30).f1) (by rw [flat_get l j 1 (by omega), hget]; rfl)
      rwa [e] at this
    · have := hr.cell (j * 3 + 2) (.int .i64 (l.getD j z30).f2) (by rw [flat_get l j 2 (by omega), hget]; rfl)
      rwa [e] at this
/-- What a call leaves that changes the set: the jobs l', the rest as it was. -/
def Left (T E : Nat) (w w' : World) (B g : Nat) (v : Value) (l' : List S30) : Prop := ∃ v', SetIs T E w' B g v' l' ∧ Only g v.ownBlock w w' ∧ (v'.ownBlock = v.ownBlock ∨ ∃ b, v'.ownBlock = some b ∧ w.heap.size ≤ b)
theorem info30 : (Try.prog.info? 30).map (fun i => (i.zero, i.size, i.bytes)) = some (some (.agg #[.int .i64 0, .int .i64 0, .int .i64 0]), 3, 24) := by kernel_rfl
theorem info36 : (Try.prog.info? 36).map (fun i => (i.zero, i.size, i.bytes)) = some (some (.agg #[.int .i64 0, .int .i64 0, .int .i64 0]), 3, 24) := by kernel_rfl
/-- behind an append onto the row, and its store into the set -/
theorem left_of_append {T E : Nat} {w W w1 : World} {B g : Nat} {v v1 : Value} {l l' : List S30} (HS : SetIs T E w B g v l) (hTE : T ≠ E) (hW : Below w.heap.size w W) (hg : W.grownBy w1 v.ownBlock) (hrow : LRow w1 B E 3 v1 l'.length (l'.flatMap enc3))
    (hat : v1.ownBlock = v.ownBlock ∨ v1.ownBlock = some W.heap.size) : Left T E w (w1.setCell ⟨g, 0, none⟩ v1) B g v l' := by
  have hgW : g < W.heap.size := Nat.lt_of_lt_of_le HS.lt hW.size
  have hb1 : w1.heap[g]? = some (.cells #[v] T (0, 0)) := (hg.block g hgW (HS.ne hTE)).trans ((hW.block g HS.lt).trans HS.blk)
  refine ⟨v1, ⟨HS.lo, (blk_set hb1 0 v1).trans rfl, hrow.move (fun k hk => Below.heap_setCell w1 _ _ k (fun e => ?_))⟩, ((Only.of_below hW g v.ownBlock).trans (Only.of_grown hg g) (.inl rfl)).setCell 0 v1, ?_⟩
  · obtain ⟨_, _, cur, hc⟩ := hrow.lt k hk
    have e' : k = g := e
    rw [e', hb1] at hc
    injection hc with hc
    injection hc with _ hc
    exact hTE hc
  · rcases hat with h | h
    · exact .inl h
    · exact .inr ⟨_, h, hW.size⟩
/-- A block of its own. -/
theorem new_any (w : World) : Calls Try.prog 10 #[] w fun e w' => e = .returned (.pointer (some ⟨w.heap.size, 0, none⟩)) ∧ w' = w.alloc (.cells #[.slice none 0 0] 58) := by
  go_enter Try.func10, Try.ntmps10
  go_wp2
  go_ret
  exact ⟨rfl, rfl⟩
theorem new_set (w : World) (B : Nat) (hB : B ≤ w.heap.size) : SetIs 58 30 (w.alloc (.cells #[.slice none 0 0] 58)) B w.heap.size (.slice none 0 0) [] :=
  ⟨hB, heap_alloc_new w _, ⟨rfl, .inl ⟨rfl, rfl⟩⟩⟩
theorem put_nil (j : S30) (w : World) : Calls Try.prog 11 #[.pointer none, .agg #[.int .i64 j.f0, .int .i64 j.f1, .int .i64 j.f2]] w fun e w' => e = .returned (.int .i64 15) ∧ Below w.heap.size w w' := by
  go_enter Try.func11, Try.ntmps11
  go_wp2
  go_ret
  exact ⟨rfl, (Below.refl _ _).alloc (Nat.le_refl _) _⟩
theorem put_low (j : S30) (g : Nat) (w : World) (h1 : j.f1 < 1) : Calls Try.prog 11 #[.pointer (some ⟨g, 0, none⟩), .agg #[.int .i64 j.f0, .int .i64 j.f1, .int .i64 j.f2]] w fun e w' => e = .returned (.int .i64 1) ∧ Below w.heap.size w w' := by
  have d1 : decide (j.f1 < 1) = true := decide_eq_true h1
  clear h1
  go_enter Try.func11, Try.ntmps11
  go_wp2
  go_ret
  exact ⟨rfl, (Below.refl _ _).alloc (Nat.le_refl _) _⟩
theorem put_high (j : S30) (g : Nat) (w : World) (h1 : 1 ≤ j.f1) (h2 : 100 < j.f1) : Calls Try.prog 11 #[.pointer (some ⟨g, 0, none⟩), .agg #[.int .i64 j.f0, .int .i64 j.f1, .int .i64 j.f2]] w fun e w' => e = .returned (.int .i64 1) ∧ Below w.heap.size w w' := by
  have d1 : decide (j.f1 < 1) = false := decide_eq_false (by omega)
  have d2 : decide (100 < j.f1) = true := decide_eq_true h2
  clear h1 h2
  go_enter Try.func11, Try.ntmps11
  go_wp2
  go_ret
  exact ⟨rfl, (Below.refl _ _).alloc (Nat.le_refl _) _⟩
theorem put_big (j : S30) (g B : Nat) (v : Value) (l : List S30) (w : World) (hs : SetIs 58 30 w B g v l) (h1 : 1 ≤ j.f1) (h2 : j.f1 ≤ 100) (h3 : 10000 ≤ l.length) : Calls Try.prog 11 #[.pointer (some ⟨g, 0, none⟩), .agg #[.int .i64 j.f0, .int .i64 j.f1, .int .i64 j.f2]] w fun e w' => e = .returned (.int .i64 4) ∧ Below w.heap.size w w' := by
  have d1 : decide (j.f1 < 1) = false := decide_eq_false (by omega)
  have d2 : decide (100 < j.f1) = false := decide_eq_false (by omega)
  obtain ⟨A, c, rfl, _⟩ := hs.slice
  have hc := hs.cell
  have hlt := hs.lt
  replace hs := Lib.hid hs
  have d3 : decide ((10000 : Int) ≤ (l.length : Int)) = true := decide_eq_true (by omega)
  clear h1 h2
  go_enter Try.func11, Try.ntmps11
  go_wp2
  go_ret
  exact ⟨rfl, (Below.refl _ _).alloc (Nat.le_refl _) _⟩
set_option maxHeartbeats 1000000 in
theorem put_ok (j : S30) (g B : Nat) (v : Value) (l : List S30) (w : World) (hs : SetIs 58 30 w B g v l) (hB : B ≤ w.heap.size) (h1 : 1 ≤ j.f1) (h2 : j.f1 ≤ 100) (h3 : l.length < 10000) :
    Calls Try.prog 11 #[.pointer (some ⟨g, 0, none⟩), .agg #[.int .i64 j.f0, .int .i64 j.f1, .int .i64 j.f2]] w fun e w' => e = .returned (.int .i64 0) ∧ Left 58 30 w w' B g v (l ++ [j]) := by
  have d1 : decide (j.f1 < 1) = false := decide_eq_false (by omega)
  have d2 : decide (100 < j.f1) = false := decide_eq_false (by omega)
  obtain ⟨A, c, rfl, hlc⟩ := hs.slice
  have hc := hs.cell
  have hlt := hs.lt
  have HS := Lib.hid hs
  clear hs
  have d3 : decide ((10000 : Int) ≤ (l.length : Int)) = false := decide_eq_false (by omega)
  clear h1 h2
  have H3 := Lib.hid h3
  have HB := Lib.hid hB
  clear h3 hlc hB
  obtain ⟨i0, hi, hz0, hz1, hz2⟩ := info_parts info30
  replace hi := Lib.hid hi
  replace hz0 := Lib.hid hz0
  replace hz1 := Lib.hid hz1
  replace hz2 := Lib.hid hz2
  go_enter Try.func11, Try.ntmps11
  go_wp2
  refine start_ (n := 11) (S := fun w' => w'.cell? ⟨g, 0, none⟩ = some (.slice A l.length c) ∧ w'.cell? ⟨w.heap.size, 0, none⟩ = some (.int .i64 j.f0) ∧ w'.cell? ⟨w.heap.size, 1, none⟩ = some (.int .i64 j.f1) ∧ w'.cell? ⟨w.heap.size, 2, none⟩ = some (.int .i64 j.f2)) (ds := [7, 10]) #[false, false, false, false, false, false, false, false, false, false, false] (by kernel_rfl) rfl rfl ⟨by go_simp, by go_simp, by go_simp, by go_simp⟩ (fun hHeld => ?_)
  refine pure_ (i := 0) (N := some 24) (v := ?_) (a' := ?_) #[true, false, false, false, false, false, false, false, false, false, false] rfl rfl (by kernel_rfl) (fun _ _ _ h => h) (Or.inl ⟨by rfl, ?_⟩) ?_ ?_
  rotate_left
  · intro w'
    go_simp
    first | with_reducible rfl | rfl
  rotate_left
  · simp only [Act.put, List.setIfInBounds_toArray, List.set_cons_zero, List.set_cons_succ, i64_w, i32_w]
    rfl
  refine pure_ (i := 1) (N := some 25) (v := ?_) (a' := ?_) #[true, true, false, false, false, false, false, false, false, false, false] rfl rfl (by kernel_rfl) (fun _ _ _ h => h) (Or.inl ⟨by rfl, ?_⟩) ?_ ?_
  rotate_left
  · intro w'
    go_simp
    first | with_reducible rfl | rfl
  rotate_left
  · simp only [Act.put, List.setIfInBounds_toArray, List.set_cons_zero, List.set_cons_succ, i64_w, i32_w]
    rfl
  refine pure_ (i := 2) (N := some 26) (v := ?_) (a' := ?_) #[true, true, true, false, false, false, false, false, false, false, false] rfl rfl (by kernel_rfl) (fun _ _ _ h => h) (Or.inl ⟨by rfl, ?_⟩) ?_ ?_
  rotate_left
  · intro w'
    go_simp
    first | with_reducible rfl | rfl
  rotate_left
  · simp only [Act.put, List.setIfInBounds_toArray, List.set_cons_zero, List.set_cons_succ, i64_w, i32_w]
    rfl
  refine pure_ (i := 3) (N := some 27) (v := ?_) (a' := ?_) #[true, true, true, true, false, false, false, false, false, false, false] rfl rfl (by kernel_rfl) (fun _ _ _ h => h) (Or.inl ⟨by rfl, ?_⟩) ?_ ?_
  rotate_left
  · intro w'
    go_simp
    first | with_reducible rfl | rfl
  rotate_left
  · simp only [Act.put, List.setIfInBounds_toArray, List.set_cons_zero, List.set_cons_succ, i64_w, i32_w]
    rfl
  refine take_ (i := 4) (N := some 28) (v := ?_) (a' := ?_) #[true, true, true, true, true, false, false, false, false, false, false] rfl rfl (by kernel_rfl) (fun _ _ _ h => h) (Or.inl ⟨by rfl, ?_⟩) hHeld ?_ ?_
  rotate_left
  · rintro w' ⟨s0, s1, s2, s3⟩
    go_simp
    first | with_reducible rfl | rfl
  rotate_left
  · simp only [Act.put, List.setIfInBounds_toArray, List.set_cons_zero, List.set_cons_succ, i64_w, i32_w]
    rfl
  refine take_ (i := 5) (N := some 29) (v := ?_) (a' := ?_) #[true, true, true, true, true, true, false, false, false, false, false] rfl rfl (by kernel_rfl) (fun _ _ _ h => h) (Or.inl ⟨by rfl, ?_⟩) hHeld ?_ ?_
  rotate_left
  · rintro w' ⟨s0, s1, s2, s3⟩
    go_simp
    first | with_reducible rfl | rfl
  rotate_left
  · simp only [Act.put, List.setIfInBounds_toArray, List.set_cons_zero, List.set_cons_succ, i64_w, i32_w]
    rfl
  refine one_ (i := 6) (N := some 30) #[true, true, true, true, true, true, true, false, false, false, false] rfl rfl (by kernel_rfl) (by decide) (fun K hK => ?_)
  refine value_ (w1 := ?_) (v := ?_) (by rfl) rfl ?_ ?_
  rotate_left 2
  · go_simp
    constructor
    · rfl
    · rfl
  refine hK.out _ _ ⟨by go_simp, by go_simp, by go_simp, by go_simp⟩ (fun hHeld => ?_)
  clear hK K
  refine norm_ (a' := ?_) ?_ ?_
  rotate_left
  · show Act.put _ (some 30) _ = _
    simp only [Act.put, List.setIfInBounds_toArray, List.set_cons_zero, List.set_cons_succ, i64_w, i32_w]
    rfl
  refine last_ (i := 7) (N := some 31) #[true, true, true, true, true, true, true, true, false, false, false] rfl rfl (by kernel_rfl) (by decide) (fun K hK => ?_)
  refine step_append_loose _ B (by rfl) (.tmp 28) (.tmp 30) 44 30 _ 3 24 rfl Try.underlying44 info30 rfl (by decide) (by decide) (.slice A l.length c) l.length (l.flatMap enc3) (enc3 j) (some ⟨_, 0, none⟩) 1 1 rfl rfl rfl ?one ?row ?src ?low ?len ?go
  case one => intro u hu; exact flat_one [j] u (by simpa using hu)
  case row => exact ((HS.out.row.move (fun k hk => Below.heap_alloc _ _ k (HS.out.row.lt k hk).1)).move (fun k hk => rfl)).move (fun k hk => Below.heap_alloc _ _ k (by have := (HS.out.row.lt k hk).1; simp; omega))
  case src => exact .inr ⟨_, rfl, by have h := World.news_of_block (cs := #[.int .i64 j.f0, .int .i64 j.f1, .int .i64 j.f2]) (t := 30) (fr := (0, 0)) (heap_alloc_new (w.alloc (.cells #[.int .i64 j.f0, .int .i64 j.f1, .int .i64 j.f2] 30)) (.cells #[.int .i64 j.f0, .int .i64 j.f1, .int .i64 j.f2] 30)); simpa [enc3] using h⟩
  case low => have := HB.out; simp; omega
  case len => have := H3.out; omega
  case go =>
    intro v1 w1 hrow hg hat
    obtain ⟨A1, c1, rfl, _⟩ := hrow.slice
    have hlt2 : g < w1.heap.size := Nat.lt_of_lt_of_le (by simp; omega) hg.size
    have hb1 : w1.heap[g]? = some (.cells #[.slice A l.length c] 58 (0, 0)) := (hg.block g (by simp; omega) (HS.out.ne (by decide))).trans ((Below.heap_alloc _ _ g (by simp; omega)).trans ((Below.heap_alloc w _ g hlt).trans HS.out.blk))
    have hcell1 : w1.cell? ⟨g, 0, none⟩ = some (.slice A l.length c) := (cell_of_row w1 g 0 _ 58 (0, 0) hb1).trans rfl
    have hfr1 : w1.frozen? ⟨g, 0, none⟩ = false := by simp [World.frozen?, hb1]
    clear hb1
    replace hrow := Lib.hid hrow
    replace hg := Lib.hid hg
    replace hat := Lib.hid hat
    refine hK.out _ _ ?_
    clear hK K
    refine norm_ (a' := ?_) ?_ ?_
    rotate_left
    · show Act.put _ (some 31) _ = _
      simp only [Act.put, List.setIfInBounds_toArray, List.set_cons_zero, List.set_cons_succ, i64_w, i32_w]
      rfl
    refine pure_ (i := 8) (N := some 32) (v := ?_) (a' := ?_) #[true, true, true, true, true, true, true, true, true, false, false] rfl rfl (by kernel_rfl) (fun _ _ _ h => h) (Or.inl ⟨by rfl, ?_⟩) ?_ ?_
    rotate_left
    · intro w'
      go_simp
      first | with_reducible rfl | rfl
    rotate_left
    · simp only [Act.put, List.setIfInBounds_toArray, List.set_cons_zero, List.set_cons_succ, i64_w, i32_w]
      rfl
    refine pure_ (i := 9) (N := some 33) (v := ?_) (a' := ?_) #[true, true, true, true, true, true, true, true, true, true, false] rfl rfl (by kernel_rfl) (fun _ _ _ h => h) (Or.inl ⟨by rfl, ?_⟩) ?_ ?_
    rotate_left
    · intro w'
      go_simp
      first | with_reducible rfl | rfl
    rotate_left
    · simp only [Act.put, List.setIfInBounds_toArray, List.set_cons_zero, List.set_cons_succ, i64_w, i32_w]
      rfl
    refine last_ (i := 10) (N := none) #[true, true, true, true, true, true, true, true, true, true, true] rfl rfl (by kernel_rfl) (by decide) (fun K hK => ?_)
    refine skip_ (w1 := ?_) (by rfl) rfl ?_ ?_
    rotate_left
    · go_simp
      rfl
    refine hK.out _ _ ?_
    clear hK K
    refine done_ (by kernel_rfl) ?_
    go_wp2
    go_ret
    refine ⟨rfl, left_of_append HS.out (by decide) (((Below.refl _ _).alloc (Nat.le_refl _) _).alloc (by simp) _).drew hg.out ?_ hat.out⟩
    rw [List.length_append, flat_append]
    have := hrow.out
    simpa using this
end Go.Proofs.Ytojdbpeaclnmkaa.Rd
