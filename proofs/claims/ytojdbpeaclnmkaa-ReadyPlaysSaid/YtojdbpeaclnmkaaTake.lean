/- The set's other calls: the best, all, a copy; one taken. -/
import Derived.Test.YtojdbpeaclnmkaaBest
set_option linter.unusedVariables false
set_option linter.unusedSimpArgs false
namespace Go.Proofs.Ytojdbpeaclnmkaa.Rd
open Go Go.RowKit Go.Proofs.YtojdbpeaclnmkaaW.PrintWords Go.Proofs.YtojdbpeaclnmkaaW.PrintLast Go.Proofs.YtojdbpeaclnmkaaW.PrintMore Go.Proofs.Ytojdbpeaclnmkaa Go.Proofs.Ytojdbpeaclnmkaa.Print
theorem bestNil (w : World) : Calls Try.prog 20 #[.pointer none] w fun e w' => e = .returned (.int .i64 0) ∧ w = w' := by
  go_enter Try.func20, Try.ntmps20
  go_wp2
  go_ret
  exact ⟨rfl, rfl⟩
theorem bestOf (g B : Nat) (v : Value) (l : List S30) (w : World) (hs : SetIs 58 30 w B g v l) (hl : l.length ≤ 10000) : Calls Try.prog 20 #[.pointer (some ⟨g, 0, none⟩)] w fun e w' => e = .returned (.int .i64 (mxp l)) ∧ Below w.heap.size w w' := by
  have HS := Lib.hid hs
  clear hs
  go_enter Try.func20, Try.ntmps20
  go_wp2_with fail
  refine (best_any g B v l _ HS.out hl).mono ?_
  rintro e w' ⟨va, rfl, _, hb⟩
  replace hb := Lib.hid hb
  go_wp2_with fail
  go_ret
  exact ⟨rfl, hb.out⟩
/-- A row of jobs that the call made. -/
def RowIs (w : World) (B : Nat) (v : Value) (l : List S30) : Prop := LRow w B 30 3 v l.length (l.flatMap enc3)
theorem RowIs.step {w w1 : World} {B : Nat} {v : Value} {l : List S30} (h : RowIs w B v l) (hb : Below w.heap.size w w1) : RowIs w1 B v l := h.move (fun k hk => hb.block k (h.lt k hk).1)
theorem RowIs.nil (w : World) (B : Nat) : RowIs w B (.slice none 0 0) [] := ⟨rfl, .inl ⟨rfl, rfl⟩⟩
def AllPost (w : World) (l : List S30) (e : Ending) (w' : World) : Prop := ∃ va, e = .returned va ∧ RowIs w' w.heap.size va l ∧ Below w.heap.size w w'
theorem allNil (w : World) : Calls Try.prog 19 #[.pointer none] w fun e w' => e = .returned (.slice none 0 0) ∧ w = w' := by
  go_enter Try.func19, Try.ntmps19
  go_wp2
  go_ret
  exact ⟨rfl, rfl⟩
theorem allOf (g B : Nat) (v : Value) (l : List S30) (w : World) (hs : SetIs 58 30 w B g v l) (hl : l.length ≤ 10000) : Calls Try.prog 19 #[.pointer (some ⟨g, 0, none⟩)] w (AllPost w l) := by
  obtain ⟨A, c, rfl, hlc⟩ := hs.slice
  have hc := hs.cell
  have HS := Lib.hid hs
  have HL := Lib.hid hl
  clear hs hlc hl
  go_enter Try.func19, Try.ntmps19
  go_wp2_with (first | (at_builtin; refine wpList_append_loose _ w.heap.size rfl (.const (.slice none 0 0)) (.tmp 8) 44 30 _ 3 24 rfl Try.underlying44 info30 rfl (by decide) (by decide) (.slice none 0 0) 0 [] (l.flatMap enc3) A l.length c rfl rfl (flat_len l) (flat_one l) ⟨rfl, .inl ⟨rfl, rfl⟩⟩ ?src (Nat.le_refl _) ?len ?go))
  case src =>
    cases A with
    | none =>
      rcases HS.out.row.2 with ⟨h1, h2⟩ | ⟨g1, cap, cur, h1, _⟩
      · have h3 : c = 0 := by injection h1
        left
        first | exact ⟨rfl, rfl, h2, h3⟩ | simp_all
      · cases h1
    | some a => exact .inr ⟨a, rfl, fun j u hj => HS.out.row.cell j u hj⟩
  case len => have := HL.out; omega
  case go =>
    intro v1 w1 hrow hg hr1
    obtain ⟨A2, c2, rfl, _⟩ := hrow.slice
    have hb : Below w.heap.size w w1 := (Below.refl _ _).grown hg (Nat.le_refl _) (fun k hk => by simp [Value.ownBlock] at hk)
    try rw [Nat.zero_add, List.nil_append] at hrow
    replace hrow := Lib.hid hrow
    replace hb := Lib.hid hb
    clear hg hr1
    go_wp2_with fail
    go_ret
    exact ⟨_, rfl, hrow.out, hb.out⟩
theorem copyNil (w : World) : Calls Try.prog 16 #[.pointer none] w fun e w' => e = .returned (.pointer none) ∧ w = w' := by
  go_enter Try.func16, Try.ntmps16
  go_wp2
  go_ret
  exact ⟨rfl, rfl⟩
def CopyPost (w : World) (l : List S30) (e : Ending) (w' : World) : Prop := ∃ g' va, e = .returned (.pointer (some ⟨g', 0, none⟩)) ∧ SetIs 58 30 w' w.heap.size g' va l ∧ Below w.heap.size w w'
theorem copyOf (g B : Nat) (v : Value) (l : List S30) (w : World) (hs : SetIs 58 30 w B g v l) (hl : l.length ≤ 10000) : Calls Try.prog 16 #[.pointer (some ⟨g, 0, none⟩)] w (CopyPost w l) := by
  have HS := Lib.hid hs
  clear hs
  go_enter Try.func16, Try.ntmps16
  go_wp2_with fail
  refine (allOf g B v l _ HS.out hl).mono ?_
  rintro e w1 ⟨va, rfl, hrow, hb⟩
  obtain ⟨A2, c2, rfl, _⟩ := LRow.slice hrow
  replace hrow := Lib.hid hrow
  replace hb := Lib.hid hb
  go_wp2_with fail
  go_ret
  exact ⟨w1.heap.size, _, rfl, ⟨hb.out.size, heap_alloc_new w1 _, hrow.out.move (fun k hk => Below.heap_alloc _ _ k (hrow.out.lt k hk).1)⟩, hb.out.alloc hb.out.size _⟩
/-! ### One taken -/
theorem placesFrom_mem (p : Int) : ∀ (l : List S30) (n : Nat) (x : Int), x ∈ placesFrom p n l → ∃ i : Nat, x = ((n + i : Nat) : Int) ∧ i < l.length ∧ (l.getD i z30).f1 = p := by
  intro l
  induction l with
  | nil => intro n x hx; cases hx
  | cons j l ih =>
    intro n x hx
    rw [placesFrom] at hx
    have key : x ∈ placesFrom p (n + 1) l → ∃ i : Nat, x = ((n + i : Nat) : Int) ∧ i < (j :: l).length ∧ ((j :: l).getD i z30).f1 = p := by
      intro hx
      obtain ⟨i, h1, h2, h3⟩ := ih (n + 1) x hx
      exact ⟨i + 1, by rw [h1]; congr 1; omega, by rw [List.length_cons]; omega, by simpa using h3⟩
    split at hx
    · rcases List.mem_cons.1 hx with rfl | hx
      · exact ⟨0, by simp, by simp, by simpa⟩
      · exact key hx
    · exact key hx
/-- the place that a pick comes to -/
def pickPlace (l : List S30) (pick : Int) : Nat := ((places l (mxp l)).getD (pick % ((places l (mxp l)).length : Int)).toNat 0).toNat
theorem pick_spec (l : List S30) (pick : Int) (h : 0 < (places l (mxp l)).length) : (places l (mxp l)).getD (pick % ((places l (mxp l)).length : Int)).toNat 0 = ((pickPlace l pick : Nat) : Int) ∧ pickPlace l pick < l.length ∧ (l.getD (pickPlace l pick) z30).f1 = mxp l := by
  have h0 := Int.emod_nonneg pick (b := ((places l (mxp l)).length : Int)) (by omega)
  have h1 := Int.emod_lt_of_pos pick (b := ((places l (mxp l)).length : Int)) (by omega)
  unfold pickPlace
  generalize hq : (pick % ((places l (mxp l)).length : Int)).toNat = q at *
  have hql : q < (places l (mxp l)).length := by omega
  have hm : (places l (mxp l)).getD q 0 ∈ places l (mxp l) := by
    rw [List.getD_eq_getElem?_getD, List.getElem?_eq_getElem hql]
    exact List.getElem_mem hql
  obtain ⟨i, h2, h3, h4⟩ := placesFrom_mem _ l 0 _ hm
  rw [Nat.zero_add] at h2
  rw [h2, Int.toNat_natCast]
  exact ⟨rfl, h3, h4⟩
theorem takeNil (a p : Int) (w : World) : Calls Try.prog 14 #[.pointer none, .int .i64 a, .int .i64 p] w fun e w' => e = .returned (.tuple #[.agg #[.int .i64 0, .int .i64 0, .int .i64 0], .bool false]) ∧ Below w.heap.size w w' := by
  go_enter Try.func14, Try.ntmps14
  go_wp2
  exact bodyPost_ret (v := .tuple #[.agg #[.int .i64 0, .int .i64 0, .int .i64 0], .bool false]) (by simp [results, Try.results14, go_sem]) rfl ⟨rfl, (Below.refl _ _).alloc (Nat.le_refl _) _⟩
theorem takeNo (g B : Nat) (v : Value) (l : List S30) (a p : Int) (w : World) (hs : SetIs 58 30 w B g v l) (hl : l.length ≤ 10000) (h : (places l (mxp l)).length = 0 ∨ mxp l ≤ a) :
    Calls Try.prog 14 #[.pointer (some ⟨g, 0, none⟩), .int .i64 a, .int .i64 p] w fun e w' => e = .returned (.tuple #[.agg #[.int .i64 0, .int .i64 0, .int .i64 0], .bool false]) ∧ Below w.heap.size w w' := by
  have HS := Lib.hid hs
  clear hs
  have HB := Lib.hid (best_any g B v l (w.alloc (.cells #[.int .i64 0, .int .i64 0, .int .i64 0] 30)) (HS.out.step ((Below.refl _ _).alloc (Nat.le_refl _) _)) hl)
  clear hl
  have fin : ∀ {w1 : World}, Below (w.alloc (.cells #[.int .i64 0, .int .i64 0, .int .i64 0] 30)).heap.size (w.alloc (.cells #[.int .i64 0, .int .i64 0, .int .i64 0] 30)) w1 → Below w.heap.size w w1 ∧ w1.cell? ⟨w.heap.size, 0, none⟩ = some (.int .i64 0) ∧ w1.cell? ⟨w.heap.size, 1, none⟩ = some (.int .i64 0) ∧ w1.cell? ⟨w.heap.size, 2, none⟩ = some (.int .i64 0) ∧ (∀ o, w1.frozen? ⟨w.heap.size, o, none⟩ = false) ∧ w1.heap[w.heap.size]? = some (.cells #[.int .i64 0, .int .i64 0, .int .i64 0] 30 (0, 0)) := by
    intro w1 hb
    have h0 : w1.heap[w.heap.size]? = some (.cells #[.int .i64 0, .int .i64 0, .int .i64 0] 30 (0, 0)) := (hb.block w.heap.size (by simp)).trans (heap_alloc_new w _)
    exact ⟨((Below.refl _ _).alloc (Nat.le_refl _) _).trans (hb.mono (by simp)), (cell_of_row w1 _ 0 _ 30 (0, 0) h0).trans rfl, (cell_of_row w1 _ 1 _ 30 (0, 0) h0).trans rfl, (cell_of_row w1 _ 2 _ 30 (0, 0) h0).trans rfl, fun o => by simp [World.frozen?, h0], h0⟩
  by_cases h0 : (places l (mxp l)).length = 0
  · have e1 : (((places l (mxp l)).length : Int) == 0) = true := by simp [h0]
    clear h
    replace h0 := Lib.hid h0
    go_enter Try.func14, Try.ntmps14
    go_wp2_with fail
    refine HB.out.mono ?_
    rintro e w1 ⟨va, rfl, hat, hb⟩
    obtain ⟨A1, c1, rfl, _⟩ := LRow.slice hat
    obtain ⟨hb2, k0, k1, k2, kf, kb⟩ := fin hb
    clear hat hb fin HB
    replace hb2 := Lib.hid hb2
    replace kb := Lib.hid kb
    go_wp2_with fail
    refine bodyPost_ret (v := .tuple #[.agg #[.int .i64 0, .int .i64 0, .int .i64 0], .bool false]) (results_ct Try.results14 _ _ w.heap.size 30 #[.int .i64 0, .int .i64 0, .int .i64 0] (0, 0) _ rfl ((blk_set (blk_set (blk_set kb.out 0 _) 1 _) 2 _).trans rfl) Try.underlying30 rfl (by kernel_rfl)) rfl ⟨rfl, ?_⟩
    exact ((hb2.out.setCell (Nat.le_refl _) _).setCell (Nat.le_refl _) _).setCell (Nat.le_refl _) _
  · have e1 : (((places l (mxp l)).length : Int) == 0) = false := by simpa using h0
    have e2 : decide (mxp l ≤ a) = true := decide_eq_true (by omega)
    clear h h0
    go_enter Try.func14, Try.ntmps14
    go_wp2_with fail
    refine HB.out.mono ?_
    rintro e w1 ⟨va, rfl, hat, hb⟩
    obtain ⟨A1, c1, rfl, _⟩ := LRow.slice hat
    obtain ⟨hb2, k0, k1, k2, kf, kb⟩ := fin hb
    clear hat hb fin HB
    replace hb2 := Lib.hid hb2
    replace kb := Lib.hid kb
    go_wp2_with fail
    refine bodyPost_ret (v := .tuple #[.agg #[.int .i64 0, .int .i64 0, .int .i64 0], .bool false]) (results_ct Try.results14 _ _ w.heap.size 30 #[.int .i64 0, .int .i64 0, .int .i64 0] (0, 0) _ rfl ((blk_set (blk_set (blk_set kb.out 0 _) 1 _) 2 _).trans rfl) Try.underlying30 rfl (by kernel_rfl)) rfl ⟨rfl, ?_⟩
    exact ((hb2.out.setCell (Nat.le_refl _) _).setCell (Nat.le_refl _) _).setCell (Nat.le_refl _) _
theorem tmod_cases (a n : Int) (hn : 0 < n) : (0 ≤ a.tmod n ∧ a.tmod n = a % n) ∨ (a.tmod n < 0 ∧ a.tmod n + n = a % n) := by
  have h := @Int.tmod_eq_emod a n
  have h1 := Int.emod_lt_of_pos a hn
  have h0 := Int.emod_nonneg a (b := n) (by omega)
  split at h
  · left; omega
  · right; omega
theorem idx_facts (i n : Nat) (h : i < n) (hi : i < 10000) : wrap64 ((i : Int) + 1) = (i : Int) + 1 ∧ 0 ≤ (i : Int) + 1 ∧ (i : Int) + 1 ≤ (n : Int) ∧ ((i : Int) + 1).toNat = i + 1 ∧ (i : Int) ≤ (i : Int) + 1 := ⟨by unfold wrap64; omega, by omega, by omega, by omega, by omega⟩
theorem LRow.cut {w : World} {B e size n c i : Nat} {a : Addr} {xs : List Value} (h : LRow w B e size (.slice (some a) n c) n xs) (hi : i ≤ n) : LRow w B e size (.slice (some a) i i) i (xs.take (i * size)) := by
  obtain ⟨h1, h2⟩ := h
  have hin : i * size ≤ n * size := Nat.mul_le_mul_right _ hi
  refine ⟨by rw [List.length_take]; omega, ?_⟩
  rcases h2 with ⟨h3, _⟩ | ⟨g, cap, cur, h3, h4, h5, h6, h7, h8, h9⟩
  · cases h3
  · injection h3 with h3 _ hc
    injection h3 with h3
    subst h3 hc
    have hic : i * size ≤ c * size := Nat.mul_le_mul_right _ (by omega)
    refine .inr ⟨g, i, cur, rfl, h4, h5, Nat.le_refl _, by omega, by omega, ?_⟩
    rw [← h9, List.take_take, Nat.min_eq_left hin]
theorem flat_take (l : List S30) (i : Nat) (hi : i ≤ l.length) : (l.flatMap enc3).take (i * 3) = (l.take i).flatMap enc3 := by
  have h := flat_append (l.take i) (l.drop i)
  rw [List.take_append_drop] at h
  have h2 : ((l.take i).flatMap enc3).length = i * 3 := by rw [flat_len, List.length_take, Nat.min_eq_left hi]
  rw [h, ← h2, List.take_left]
theorem flat_drop (l : List S30) (i : Nat) (hi : i ≤ l.length) (j : Nat) : ((l.drop i).flatMap enc3)[j]? = (l.flatMap enc3)[i * 3 + j]? := by
  have h := flat_append (l.take i) (l.drop i)
  rw [List.take_append_drop] at h
  have h2 : ((l.take i).flatMap enc3).length = i * 3 := by rw [flat_len, List.length_take, Nat.min_eq_left hi]
  rw [h, List.getElem?_append_right (by omega), h2, Nat.add_sub_cancel_left]
theorem erase_eq (l : List S30) (i : Nat) : l.eraseIdx i = l.take i ++ l.drop (i + 1) := List.eraseIdx_eq_take_drop_succ l i
/-- .. and behind what is written into a block of the call's own -/
theorem take_left {T E : Nat} {w W w1 : World} {B g r : Nat} {v v1 : Value} {l l' : List S30} (HS : SetIs T E w B g v l) (hTE : T ≠ E) (hW : Below w.heap.size w W) (hr : w.heap.size ≤ r) (hr2 : r < W.heap.size) (hg : W.grownBy w1 v.ownBlock) (hrow : LRow w1 B E 3 v1 l'.length (l'.flatMap enc3))
    (hat : v1.ownBlock = v.ownBlock ∨ v1.ownBlock = some W.heap.size) (a b c : Value) : Left T E w ((((w1.setCell ⟨g, 0, none⟩ v1).setCell ⟨r, 0, none⟩ a).setCell ⟨r, 1, none⟩ b).setCell ⟨r, 2, none⟩ c) B g v l' := by
  have hgW : g < W.heap.size := Nat.lt_of_lt_of_le HS.lt hW.size
  have hgl := HS.lt
  have hb1 : w1.heap[g]? = some (.cells #[v] T (0, 0)) := (hg.block g hgW (HS.ne hTE)).trans ((hW.block g HS.lt).trans HS.blk)
  have far : ∀ k, k ≠ r → ((((w1.setCell ⟨g, 0, none⟩ v1).setCell ⟨r, 0, none⟩ a).setCell ⟨r, 1, none⟩ b).setCell ⟨r, 2, none⟩ c).heap[k]? = (w1.setCell ⟨g, 0, none⟩ v1).heap[k]? := fun k hk =>
    (Below.heap_setCell _ ⟨r, 2, none⟩ c k hk).trans ((Below.heap_setCell _ ⟨r, 1, none⟩ b k hk).trans (Below.heap_setCell _ ⟨r, 0, none⟩ a k hk))
  have hv : ∀ k, v1.ownBlock = some k → k ≠ g ∧ k ≠ r := by
    intro k hk
    obtain ⟨_, _, cur, hc⟩ := hrow.lt k hk
    refine ⟨fun e => ?_, fun e => ?_⟩
    · rw [e, hb1] at hc
      injection hc with hc
      injection hc with _ hc
      exact hTE hc
    · rcases hat with h | h
      · rw [h] at hk
        have := (HS.row.lt k hk).1
        omega
      · rw [h] at hk
        injection hk with hk
        omega
  have h0 := ((Only.of_below hW g v.ownBlock).trans (Only.of_grown hg g) (.inl rfl)).setCell 0 v1
  refine ⟨v1, ⟨HS.lo, (far g (by omega)).trans ((blk_set hb1 0 v1).trans rfl), hrow.move (fun k hk => (far k (hv k hk).2).trans (Below.heap_setCell w1 _ _ k (hv k hk).1))⟩, ⟨h0.os, h0.tape, h0.output, by have := h0.size; simpa [World.setCell] using this, fun k hk hkg hkr => (far k (by omega)).trans (h0.block k hk hkg hkr)⟩, ?_⟩
  rcases hat with h | h
  · exact .inl h
  · exact .inr ⟨_, h, hW.size⟩
def TakePost (w : World) (B g : Nat) (v : Value) (l : List S30) (i : Nat) (e : Ending) (w' : World) : Prop :=
  e = .returned (.tuple #[.agg #[.int .i64 (l.getD i z30).f0, .int .i64 (l.getD i z30).f1, .int .i64 (l.getD i z30).f2], .bool true]) ∧ Left 58 30 w w' B g v (l.eraseIdx i)
theorem wrap_small (k n : Nat) (h : (k : Int) < n) (hn : n ≤ 10000) : wrap64 (k : Int) = k := by unfold wrap64; omega
theorem lenOk (l : List S30) (i : Nat) (hl : l.length ≤ 10000) (hi : i < l.length) : (i + (l.length - (i + 1))) * 24 ≤ 140737488355328 ∧ (i + 0) * 24 ≤ 140737488355328 := ⟨by omega, by omega⟩
/-- what the cells hold behind the append -/
theorem take_cells {T E : Nat} {w w1 w2 : World} {B g b n c : Nat} {l : List S30} (HS : SetIs T E w B g (.slice (some ⟨b, 0, none⟩) n c) l) (hTE : T ≠ E) {z0 z1 z2 : Value} {ty : Nat} (hb : Below (w.alloc (.cells #[z0, z1, z2] ty)).heap.size (w.alloc (.cells #[z0, z1, z2] ty)) w1) {x0 x1 x2 : Value}
    {i m : Nat} (hg : ((w1.alloc (.cells #[x0, x1, x2] ty)).drew).grownBy w2 (Value.slice (some ⟨b, 0, none⟩) i m).ownBlock) (hbw : b < w.heap.size) :
    w2.cell? ⟨g, 0, none⟩ = some (.slice (some ⟨b, 0, none⟩) n c) ∧ w2.frozen? ⟨g, 0, none⟩ = false ∧ ∀ V, (w2.setCell ⟨g, 0, none⟩ V).cell? ⟨w1.heap.size, 0, none⟩ = some x0 ∧ (w2.setCell ⟨g, 0, none⟩ V).cell? ⟨w1.heap.size, 1, none⟩ = some x1 ∧ (w2.setCell ⟨g, 0, none⟩ V).cell? ⟨w1.heap.size, 2, none⟩ = some x2 ∧
      (∀ o, (w2.setCell ⟨g, 0, none⟩ V).frozen? ⟨w.heap.size, o, none⟩ = false) ∧ (w2.setCell ⟨g, 0, none⟩ V).heap[w.heap.size]? = some (.cells #[z0, z1, z2] ty (0, 0)) ∧ (w2.setCell ⟨g, 0, none⟩ V).cell? ⟨w.heap.size, 0, none⟩ = some z0 ∧ (w2.setCell ⟨g, 0, none⟩ V).cell? ⟨w.heap.size, 1, none⟩ = some z1 ∧ (w2.setCell ⟨g, 0, none⟩ V).cell? ⟨w.heap.size, 2, none⟩ = some z2 := by
  have hsz : w.heap.size < w1.heap.size := by have := hb.size; simp at this; omega
  have hglt := HS.lt
  have hgb : g ≠ b := fun e => HS.ne hTE (by rw [e]; rfl)
  have step : ∀ k, k < w1.heap.size → k ≠ b → w2.heap[k]? = w1.heap[k]? := fun k hk hkb => (hg.block k (by simp; omega) (fun e => hkb (by injection e))).trans (Below.heap_alloc w1 _ k hk)
  have h1 : w2.heap[g]? = some (.cells #[.slice (some ⟨b, 0, none⟩) n c] T (0, 0)) := (step g (by omega) hgb).trans ((hb.block g (by simp; omega)).trans ((Below.heap_alloc w _ g hglt).trans HS.blk))
  have h2 : w2.heap[w.heap.size]? = some (.cells #[z0, z1, z2] ty (0, 0)) := (step _ hsz (by omega)).trans ((hb.block _ (by simp)).trans (heap_alloc_new w _))
  have h3 : w2.heap[w1.heap.size]? = some (.cells #[x0, x1, x2] ty (0, 0)) := (hg.block _ (by simp) (fun e => absurd (show w1.heap.size = b from Option.some.inj e) (by omega))).trans (heap_alloc_new w1 _)
  refine ⟨(cell_of_row w2 g 0 _ T (0, 0) h1).trans rfl, by simp [World.frozen?, h1], fun V => ?_⟩
  have h2' := (Below.heap_setCell w2 ⟨g, 0, none⟩ V w.heap.size (by show w.heap.size ≠ g; omega)).trans h2
  have h3' := (Below.heap_setCell w2 ⟨g, 0, none⟩ V w1.heap.size (by show w1.heap.size ≠ g; omega)).trans h3
  exact ⟨(cell_of_row _ _ 0 _ ty (0, 0) h3').trans rfl, (cell_of_row _ _ 1 _ ty (0, 0) h3').trans rfl, (cell_of_row _ _ 2 _ ty (0, 0) h3').trans rfl, fun o => by unfold World.frozen?; rw [h2']; simp, h2',
    (cell_of_row _ _ 0 _ ty (0, 0) h2').trans rfl, (cell_of_row _ _ 1 _ ty (0, 0) h2').trans rfl, (cell_of_row _ _ 2 _ ty (0, 0) h2').trans rfl⟩
set_option maxHeartbeats 2000000 in
theorem takeYes (g B : Nat) (v : Value) (l : List S30) (a p : Int) (w : World) (hs : SetIs 58 30 w B g v l) (hB : B ≤ w.heap.size) (hl : l.length ≤ 10000) (h0 : 0 < (places l (mxp l)).length) (ha : a < mxp l) :
    Calls Try.prog 14 #[.pointer (some ⟨g, 0, none⟩), .int .i64 a, .int .i64 p] w (TakePost w B g v l (pickPlace l p)) := by
  have HS := Lib.hid hs
  have HL := Lib.hid hl
  have HB0 := Lib.hid hB
  clear hs hB
  have HB := Lib.hid (best_any g B v l (w.alloc (.cells #[.int .i64 0, .int .i64 0, .int .i64 0] 30)) (HS.out.step ((Below.refl _ _).alloc (Nat.le_refl _) _)) hl)
  obtain ⟨q1, q2, q3⟩ := pick_spec l p h0
  have hm := tmod_cases p ((places l (mxp l)).length : Int) (by omega)
  have hn1 := Int.emod_nonneg p (b := ((places l (mxp l)).length : Int)) (by omega)
  have hn2 := Int.emod_lt_of_pos p (b := ((places l (mxp l)).length : Int)) (by omega)
  have hnl : (places l (mxp l)).length ≤ 10000 := Nat.le_trans (placesFrom_len _ l 0) hl
  generalize hR : places l (mxp l) = R at *
  generalize hi : pickPlace l p = i at *
  have e1 : ((R.length : Int) == 0) = false := by
    rw [beq_eq_false_iff_ne]
    omega
  have e2 : decide (mxp l ≤ a) = false := decide_eq_false (by omega)
  replace hR := Lib.hid hR
  replace hi := Lib.hid hi
  replace q1 := Lib.hid q1
  replace q3 := Lib.hid q3
  replace ha := Lib.hid ha
  obtain ⟨kk, hkk⟩ : ∃ kk : Nat, p % (R.length : Int) = (kk : Int) := ⟨_, (Int.toNat_of_nonneg hn1).symm⟩
  replace q1 := Lib.hid (by have := q1.out; rwa [hkk, Int.toNat_natCast] at this : R.getD kk 0 = (i : Int))
  have hkn : (kk : Int) < (R.length : Int) := by omega
  rcases hm with ⟨m0, m1⟩ | ⟨m0, m1⟩
  · have e3 : decide (p.tmod (R.length : Int) < 0) = false := decide_eq_false (by omega)
    rw [hkk] at m1 hn1 hn2
    clear hkk m0
    go_enter Try.func14, Try.ntmps14
    go_wp2_with fail
    refine HB.out.mono ?_
    rintro e w1 ⟨va, rfl, hat, hb⟩
    rw [hR.out] at hat
    obtain ⟨A1, c1, rfl, _⟩ := LRow.slice hat
    obtain ⟨b1, rfl, hk1⟩ : ∃ b1, A1 = some ⟨b1, 0, none⟩ ∧ w1.cell? ⟨b1, kk, none⟩ = some (.int .i64 (i : Int)) := by
      rcases hat.2 with ⟨h3, h4⟩ | ⟨b1, cap, cur, h3, _⟩
      · omega
      · injection h3 with h3 _ _
        subst h3
        refine ⟨b1, rfl, ?_⟩
        have := LRow.cell hat kk (.int .i64 (i : Int)) (by rw [List.getElem?_map, ← q1.out, List.getD_eq_getElem?_getD, List.getElem?_eq_getElem (by omega)]; rfl)
        rwa [add_plain] at this
    have hs1 : SetIs 58 30 w1 B g v l := (HS.out.step ((Below.refl _ _).alloc (Nat.le_refl _) _)).step hb
    obtain ⟨A, c, rfl, hlc⟩ := hs1.slice
    obtain ⟨b, rfl, c0, c1_, c2_⟩ := hs1.elem i q2
    have hcg := hs1.cell
    have hbl : b < w1.heap.size := World.block_lt_of_cell? w1 _ c0
    have hg1 := hs1.lt
    generalize hx : l.getD i z30 = x at *
    replace hx := Lib.hid hx
    have hbb : ∀ (w1 : World), Below (w.alloc (.cells #[.int .i64 0, .int .i64 0, .int .i64 0] 30)).heap.size (w.alloc (.cells #[.int .i64 0, .int .i64 0, .int .i64 0] 30)) w1 → Below w.heap.size w w1 := fun w1 hb => ((Below.refl _ _).alloc (Nat.le_refl _) _).trans (hb.mono (by simp))
    have hbs : ∀ (w1 : World), Below (w.alloc (.cells #[.int .i64 0, .int .i64 0, .int .i64 0] 30)).heap.size (w.alloc (.cells #[.int .i64 0, .int .i64 0, .int .i64 0] 30)) w1 → w.heap.size < w1.heap.size := fun w1 hb => Nat.lt_of_lt_of_le (by simp) hb.size
    replace hbb := Lib.hid hbb
    replace hbs := Lib.hid hbs
    have hir : i < 10000 := Nat.lt_of_lt_of_le q2 hl
    have hic : i + 1 ≤ c := Nat.le_trans q2 hlc
    have hic' : i ≤ c := Nat.le_of_succ_le hic
    replace hat := Lib.hid hat
    replace hb := Lib.hid hb
    replace hs1 := Lib.hid hs1
    have q2i : (i : Int) < (l.length : Int) := by omega
    go_wp2_with fail
    rcases Nat.eq_or_lt_of_le hic with hcc | hcc
    · subst hcc
      obtain ⟨x1, x2, x3, x4, x5⟩ := idx_facts i l.length q2 hir
      refine start_ (n := 19) (S := fun w' => w'.cell? ⟨g, 0, none⟩ = some (.slice (some ⟨b, 0, none⟩) l.length (i + 1))) (ds := [15, 18]) #[false, false, false, false, false, false, false, false, false, false, false, false, false, false, false, false, false, false, false] (by kernel_rfl) rfl rfl (by go_simp) (fun hHeld => ?_)
      refine pure_ (i := 0) (N := some 51) (v := ?_) (a' := ?_) #[true, false, false, false, false, false, false, false, false, false, false, false, false, false, false, false, false, false, false] rfl rfl (by kernel_rfl) (fun _ _ _ h => h) (Or.inl ⟨by rfl, ?_⟩) ?_ ?_
      rotate_left
      · intro w'
        go_simp
        first | with_reducible rfl | rfl
      rotate_left
      · simp only [Act.put, List.setIfInBounds_toArray, List.set_cons_zero, List.set_cons_succ, i64_w, i32_w]
        rfl
      refine pure_ (i := 1) (N := some 52) (v := ?_) (a' := ?_) #[true, true, false, false, false, false, false, false, false, false, false, false, false, false, false, false, false, false, false] rfl rfl (by kernel_rfl) (fun _ _ _ h => h) (Or.inl ⟨by rfl, ?_⟩) ?_ ?_
      rotate_left
      · intro w'
        go_simp
        first | with_reducible rfl | rfl
      rotate_left
      · simp only [Act.put, List.setIfInBounds_toArray, List.set_cons_zero, List.set_cons_succ, i64_w, i32_w]
        rfl
      refine pure_ (i := 2) (N := some 53) (v := ?_) (a' := ?_) #[true, true, true, false, false, false, false, false, false, false, false, false, false, false, false, false, false, false, false] rfl rfl (by kernel_rfl) (fun _ _ _ h => h) (Or.inl ⟨by rfl, ?_⟩) ?_ ?_
      rotate_left
      · intro w'
        go_simp
        first | with_reducible rfl | rfl
      rotate_left
      · simp only [Act.put, List.setIfInBounds_toArray, List.set_cons_zero, List.set_cons_succ, i64_w, i32_w]
        rfl
      refine pure_ (i := 3) (N := some 54) (v := ?_) (a' := ?_) #[true, true, true, true, false, false, false, false, false, false, false, false, false, false, false, false, false, false, false] rfl rfl (by kernel_rfl) (fun _ _ _ h => h) (Or.inl ⟨by rfl, ?_⟩) ?_ ?_
      rotate_left
      · intro w'
        go_simp
        first | with_reducible rfl | rfl
      rotate_left
      · simp only [Act.put, List.setIfInBounds_toArray, List.set_cons_zero, List.set_cons_succ, i64_w, i32_w]
        rfl
      refine take_ (i := 4) (N := some 55) (v := ?_) (a' := ?_) #[true, true, true, true, true, false, false, false, false, false, false, false, false, false, false, false, false, false, false] rfl rfl (by kernel_rfl) (fun _ _ _ h => h) (Or.inl ⟨by rfl, ?_⟩) hHeld ?_ ?_
      rotate_left
      · rintro w' s0
        go_simp
        first | with_reducible rfl | rfl
      rotate_left
      · simp only [Act.put, List.setIfInBounds_toArray, List.set_cons_zero, List.set_cons_succ, i64_w, i32_w]
        rfl
      refine pure_ (i := 5) (N := some 56) (v := ?_) (a' := ?_) #[true, true, true, true, true, true, false, false, false, false, false, false, false, false, false, false, false, false, false] rfl rfl (by kernel_rfl) (fun _ _ _ h => h) (Or.inl ⟨by rfl, ?_⟩) ?_ ?_
      rotate_left
      · intro w'
        go_simp
        first | with_reducible rfl | rfl
      rotate_left
      · simp only [Act.put, List.setIfInBounds_toArray, List.set_cons_zero, List.set_cons_succ, i64_w, i32_w]
        rfl
      refine pure_ (i := 6) (N := some 57) (v := ?_) (a' := ?_) #[true, true, true, true, true, true, true, false, false, false, false, false, false, false, false, false, false, false, false] rfl rfl (by kernel_rfl) (fun _ _ _ h => h) (Or.inl ⟨by rfl, ?_⟩) ?_ ?_
      rotate_left
      · intro w'
        go_simp
        first | with_reducible rfl | rfl
      rotate_left
      · simp only [Act.put, List.setIfInBounds_toArray, List.set_cons_zero, List.set_cons_succ, i64_w, i32_w]
        rfl
      refine pure_ (i := 7) (N := some 58) (v := ?_) (a' := ?_) #[true, true, true, true, true, true, true, true, false, false, false, false, false, false, false, false, false, false, false] rfl rfl (by kernel_rfl) (fun _ _ _ h => h) (Or.inl ⟨by rfl, ?_⟩) ?_ ?_
      rotate_left
      · intro w'
        go_simp
        first | with_reducible rfl | rfl
      rotate_left
      · simp only [Act.put, List.setIfInBounds_toArray, List.set_cons_zero, List.set_cons_succ, i64_w, i32_w]
        rfl
      refine pure_ (i := 8) (N := some 59) (v := ?_) (a' := ?_) #[true, true, true, true, true, true, true, true, true, false, false, false, false, false, false, false, false, false, false] rfl rfl (by kernel_rfl) (fun _ _ _ h => h) (Or.inl ⟨by rfl, ?_⟩) ?_ ?_
      rotate_left
      · intro w'
        go_simp
        first | with_reducible rfl | rfl
      rotate_left
      · simp only [Act.put, List.setIfInBounds_toArray, List.set_cons_zero, List.set_cons_succ, i64_w, i32_w]
        rfl
      refine pure_ (i := 9) (N := some 60) (v := ?_) (a' := ?_) #[true, true, true, true, true, true, true, true, true, true, false, false, false, false, false, false, false, false, false] rfl rfl (by kernel_rfl) (fun _ _ _ h => h) (Or.inl ⟨by rfl, ?_⟩) ?_ ?_
      rotate_left
      · intro w'
        go_simp
        first | with_reducible rfl | rfl
      rotate_left
      · simp only [Act.put, List.setIfInBounds_toArray, List.set_cons_zero, List.set_cons_succ, i64_w, i32_w]
        rfl
      refine pure_ (i := 10) (N := some 61) (v := ?_) (a' := ?_) #[true, true, true, true, true, true, true, true, true, true, true, false, false, false, false, false, false, false, false] rfl rfl (by kernel_rfl) (fun _ _ _ h => h) (Or.inl ⟨by rfl, ?_⟩) ?_ ?_
      rotate_left
      · intro w'
        go_simp
        first | with_reducible rfl | rfl
      rotate_left
      · simp only [Act.put, List.setIfInBounds_toArray, List.set_cons_zero, List.set_cons_succ, i64_w, i32_w]
        rfl
      refine take_ (i := 11) (N := some 62) (v := ?_) (a' := ?_) #[true, true, true, true, true, true, true, true, true, true, true, true, false, false, false, false, false, false, false] rfl rfl (by kernel_rfl) (fun _ _ _ h => h) (Or.inl ⟨by rfl, ?_⟩) hHeld ?_ ?_
      rotate_left
      · rintro w' s0
        go_simp
        first | with_reducible rfl | rfl
      rotate_left
      · simp only [Act.put, List.setIfInBounds_toArray, List.set_cons_zero, List.set_cons_succ, i64_w, i32_w]
        rfl
      refine pure_ (i := 12) (N := some 63) (v := ?_) (a' := ?_) #[true, true, true, true, true, true, true, true, true, true, true, true, true, false, false, false, false, false, false] rfl rfl (by kernel_rfl) (fun _ _ _ h => h) (Or.inl ⟨by rfl, ?_⟩) ?_ ?_
      rotate_left
      · intro w'
        go_simp
        first | with_reducible rfl | rfl
      rotate_left
      · simp only [Act.put, List.setIfInBounds_toArray, List.set_cons_zero, List.set_cons_succ, i64_w, i32_w]
        rfl
      refine pure_ (i := 13) (N := some 64) (v := ?_) (a' := ?_) #[true, true, true, true, true, true, true, true, true, true, true, true, true, true, false, false, false, false, false] rfl rfl (by kernel_rfl) (fun _ _ _ h => h) (Or.inl ⟨by rfl, ?_⟩) ?_ ?_
      rotate_left
      · intro w'
        go_simp
        first | with_reducible rfl | rfl
      rotate_left
      · simp only [Act.put, List.setIfInBounds_toArray, List.set_cons_zero, List.set_cons_succ, i64_w, i32_w]
        rfl
      refine pure_ (i := 14) (N := some 65) (v := ?_) (a' := ?_) #[true, true, true, true, true, true, true, true, true, true, true, true, true, true, true, false, false, false, false] rfl rfl (by kernel_rfl) (fun _ _ _ h => h) (Or.inl ⟨by rfl, ?_⟩) ?_ ?_
      rotate_left
      · intro w'
        go_simp
        first | with_reducible rfl | rfl
      rotate_left
      · simp only [Act.put, List.setIfInBounds_toArray, List.set_cons_zero, List.set_cons_succ, i64_w, i32_w]
        rfl
      refine last_ (i := 15) (N := some 66) #[true, true, true, true, true, true, true, true, true, true, true, true, true, true, true, true, false, false, false] rfl rfl (by kernel_rfl) (by decide) (fun K hK => ?_)
      refine step_append_loose _ B (by rfl) (.tmp 58) (.tmp 65) 44 30 _ 3 24 rfl Try.underlying44 info30 rfl (by decide) (by decide) (.slice (some ⟨b, 0, none⟩) i i) i ((l.take i).flatMap enc3) ((l.drop (i + 1)).flatMap enc3) _ _ _ rfl rfl ?nl1 (flat_one _) ?row1 ?src1 ?low1 ?len1 ?go1
      case nl1 => rw [flat_len, List.length_drop]; rw [Nat.sub_eq_zero_of_le hlc]
      case row1 => exact (by have h := LRow.cut hs1.out.row (Nat.le_of_lt q2); rw [flat_take l i (Nat.le_of_lt q2)] at h; exact h.move (fun k hk => (Below.heap_alloc w1 _ k (hs1.out.row.lt k hk).1)))
      case src1 => exact .inr ⟨_, rfl, fun j u hj => by rw [List.drop_of_length_le hlc] at hj; simp at hj⟩
      case low1 => exact Nat.le_trans HB0.out (Nat.le_trans (hbb.out _ hb.out).size (by simp))
      case len1 => have h := lenOk l i HL.out q2; first | exact h.1 | exact h.2
      case go1 =>
        intro v1 w2 hrow hg hr1
        obtain ⟨A2, c2, rfl, _⟩ := hrow.slice
        have hWb : Below w.heap.size w ((w1.alloc (.cells #[.int .i64 x.f0, .int .i64 x.f1, .int .i64 x.f2] 30)).drew) := ((hbb.out _ hb.out).alloc (hbb.out _ hb.out).size _).drew
        have hsz := (hbb.out _ hb.out).size
        have hw1 : w.heap.size < w1.heap.size := hbs.out _ hb.out
        have hrw : LRow w2 B 30 3 (.slice A2 (i + 0) c2) (l.eraseIdx i).length ((l.eraseIdx i).flatMap enc3) := by rw [erase_eq, flat_append, List.length_append, List.length_take, List.length_drop, Nat.min_eq_left (Nat.le_of_lt q2)]; first | exact hrow | (rw [Nat.sub_eq_zero_of_le hlc]; exact hrow)
        have hfin := take_left (r := w.heap.size) HS.out (by decide) hWb (Nat.le_refl _) (by simp; omega) hg hrw hr1 (.int .i64 x.f0) (.int .i64 x.f1) (.int .i64 x.f2)
        have hbw : b < w.heap.size := (HS.out.row.lt b rfl).1
        obtain ⟨g0, g1, hV⟩ := take_cells HS.out (by decide) hb.out hg hbw
        replace hfin := Lib.hid hfin
        replace hV := Lib.hid hV
        clear hrow hg hr1 hWb hrw
        refine hK.out _ _ ?_
        clear hK K
        refine norm_ (a' := ?_) ?_ ?_
        rotate_left
        · show Act.put _ (some 66) _ = _
          simp only [Act.put, List.setIfInBounds_toArray, List.set_cons_zero, List.set_cons_succ, i64_w, i32_w]
          rfl
        refine pure_ (i := 16) (N := some 67) (v := ?_) (a' := ?_) #[true, true, true, true, true, true, true, true, true, true, true, true, true, true, true, true, true, false, false] rfl rfl (by kernel_rfl) (fun _ _ _ h => h) (Or.inl ⟨by rfl, ?_⟩) ?_ ?_
        rotate_left
        · intro w'
          go_simp
          first | with_reducible rfl | rfl
        rotate_left
        · simp only [Act.put, List.setIfInBounds_toArray, List.set_cons_zero, List.set_cons_succ, i64_w, i32_w]
          rfl
        refine pure_ (i := 17) (N := some 68) (v := ?_) (a' := ?_) #[true, true, true, true, true, true, true, true, true, true, true, true, true, true, true, true, true, true, false] rfl rfl (by kernel_rfl) (fun _ _ _ h => h) (Or.inl ⟨by rfl, ?_⟩) ?_ ?_
        rotate_left
        · intro w'
          go_simp
          first | with_reducible rfl | rfl
        rotate_left
        · simp only [Act.put, List.setIfInBounds_toArray, List.set_cons_zero, List.set_cons_succ, i64_w, i32_w]
          rfl
        refine last_ (i := 18) (N := none) #[true, true, true, true, true, true, true, true, true, true, true, true, true, true, true, true, true, true, true] rfl rfl (by kernel_rfl) (by decide) (fun K hK => ?_)
        refine skip_ (w1 := ?_) (by rfl) rfl ?_ ?_
        rotate_left
        · go_simp
          rfl
        refine hK.out _ _ ?_
        clear hK K
        refine done_ (by kernel_rfl) ?_
        obtain ⟨j0, j1, j2, r1, r2, r3, r4, r5⟩ := hV.out (.slice A2 (i) c2)
        replace r2 := Lib.hid r2
        clear hV
        go_wp2_with fail
        refine bodyPost_ret (v := .tuple #[.agg #[.int .i64 x.f0, .int .i64 x.f1, .int .i64 x.f2], .bool true]) (results_ct Try.results14 _ _ w.heap.size 30 #[.int .i64 x.f0, .int .i64 x.f1, .int .i64 x.f2] (0, 0) _ rfl ((blk_set (blk_set (blk_set r2.out 0 _) 1 _) 2 _).trans rfl) Try.underlying30 rfl (by kernel_rfl)) rfl (And.intro ?_ ?_)
        · rw [hx.out]
        · exact hfin.out
    · have hcn : ¬ c = i + 1 := Nat.ne_of_gt hcc
      obtain ⟨x1, x2, x3, x4, x5⟩ := idx_facts i l.length q2 hir
      refine start_ (n := 19) (S := fun w' => w'.cell? ⟨g, 0, none⟩ = some (.slice (some ⟨b, 0, none⟩) l.length c)) (ds := [15, 18]) #[false, false, false, false, false, false, false, false, false, false, false, false, false, false, false, false, false, false, false] (by kernel_rfl) rfl rfl (by go_simp) (fun hHeld => ?_)
      refine pure_ (i := 0) (N := some 51) (v := ?_) (a' := ?_) #[true, false, false, false, false, false, false, false, false, false, false, false, false, false, false, false, false, false, false] rfl rfl (by kernel_rfl) (fun _ _ _ h => h) (Or.inl ⟨by rfl, ?_⟩) ?_ ?_
      rotate_left
      · intro w'
        go_simp
        first | with_reducible rfl | rfl
      rotate_left
      · simp only [Act.put, List.setIfInBounds_toArray, List.set_cons_zero, List.set_cons_succ, i64_w, i32_w]
        rfl
      refine pure_ (i := 1) (N := some 52) (v := ?_) (a' := ?_) #[true, true, false, false, false, false, false, false, false, false, false, false, false, false, false, false, false, false, false] rfl rfl (by kernel_rfl) (fun _ _ _ h => h) (Or.inl ⟨by rfl, ?_⟩) ?_ ?_
      rotate_left
      · intro w'
        go_simp
        first | with_reducible rfl | rfl
      rotate_left
      · simp only [Act.put, List.setIfInBounds_toArray, List.set_cons_zero, List.set_cons_succ, i64_w, i32_w]
        rfl
      refine pure_ (i := 2) (N := some 53) (v := ?_) (a' := ?_) #[true, true, true, false, false, false, false, false, false, false, false, false, false, false, false, false, false, false, false] rfl rfl (by kernel_rfl) (fun _ _ _ h => h) (Or.inl ⟨by rfl, ?_⟩) ?_ ?_
      rotate_left
      · intro w'
        go_simp
        first | with_reducible rfl | rfl
      rotate_left
      · simp only [Act.put, List.setIfInBounds_toArray, List.set_cons_zero, List.set_cons_succ, i64_w, i32_w]
        rfl
      refine pure_ (i := 3) (N := some 54) (v := ?_) (a' := ?_) #[true, true, true, true, false, false, false, false, false, false, false, false, false, false, false, false, false, false, false] rfl rfl (by kernel_rfl) (fun _ _ _ h => h) (Or.inl ⟨by rfl, ?_⟩) ?_ ?_
      rotate_left
      · intro w'
        go_simp
        first | with_reducible rfl | rfl
      rotate_left
      · simp only [Act.put, List.setIfInBounds_toArray, List.set_cons_zero, List.set_cons_succ, i64_w, i32_w]
        rfl
      refine take_ (i := 4) (N := some 55) (v := ?_) (a' := ?_) #[true, true, true, true, true, false, false, false, false, false, false, false, false, false, false, false, false, false, false] rfl rfl (by kernel_rfl) (fun _ _ _ h => h) (Or.inl ⟨by rfl, ?_⟩) hHeld ?_ ?_
      rotate_left
      · rintro w' s0
        go_simp
        first | with_reducible rfl | rfl
      rotate_left
      · simp only [Act.put, List.setIfInBounds_toArray, List.set_cons_zero, List.set_cons_succ, i64_w, i32_w]
        rfl
      refine pure_ (i := 5) (N := some 56) (v := ?_) (a' := ?_) #[true, true, true, true, true, true, false, false, false, false, false, false, false, false, false, false, false, false, false] rfl rfl (by kernel_rfl) (fun _ _ _ h => h) (Or.inl ⟨by rfl, ?_⟩) ?_ ?_
      rotate_left
      · intro w'
        go_simp
        first | with_reducible rfl | rfl
      rotate_left
      · simp only [Act.put, List.setIfInBounds_toArray, List.set_cons_zero, List.set_cons_succ, i64_w, i32_w]
        rfl
      refine pure_ (i := 6) (N := some 57) (v := ?_) (a' := ?_) #[true, true, true, true, true, true, true, false, false, false, false, false, false, false, false, false, false, false, false] rfl rfl (by kernel_rfl) (fun _ _ _ h => h) (Or.inl ⟨by rfl, ?_⟩) ?_ ?_
      rotate_left
      · intro w'
        go_simp
        first | with_reducible rfl | rfl
      rotate_left
      · simp only [Act.put, List.setIfInBounds_toArray, List.set_cons_zero, List.set_cons_succ, i64_w, i32_w]
        rfl
      refine pure_ (i := 7) (N := some 58) (v := ?_) (a' := ?_) #[true, true, true, true, true, true, true, true, false, false, false, false, false, false, false, false, false, false, false] rfl rfl (by kernel_rfl) (fun _ _ _ h => h) (Or.inl ⟨by rfl, ?_⟩) ?_ ?_
      rotate_left
      · intro w'
        go_simp
        first | with_reducible rfl | rfl
      rotate_left
      · simp only [Act.put, List.setIfInBounds_toArray, List.set_cons_zero, List.set_cons_succ, i64_w, i32_w]
        rfl
      refine pure_ (i := 8) (N := some 59) (v := ?_) (a' := ?_) #[true, true, true, true, true, true, true, true, true, false, false, false, false, false, false, false, false, false, false] rfl rfl (by kernel_rfl) (fun _ _ _ h => h) (Or.inl ⟨by rfl, ?_⟩) ?_ ?_
      rotate_left
      · intro w'
        go_simp
        first | with_reducible rfl | rfl
      rotate_left
      · simp only [Act.put, List.setIfInBounds_toArray, List.set_cons_zero, List.set_cons_succ, i64_w, i32_w]
        rfl
      refine pure_ (i := 9) (N := some 60) (v := ?_) (a' := ?_) #[true, true, true, true, true, true, true, true, true, true, false, false, false, false, false, false, false, false, false] rfl rfl (by kernel_rfl) (fun _ _ _ h => h) (Or.inl ⟨by rfl, ?_⟩) ?_ ?_
      rotate_left
      · intro w'
        go_simp
        first | with_reducible rfl | rfl
      rotate_left
      · simp only [Act.put, List.setIfInBounds_toArray, List.set_cons_zero, List.set_cons_succ, i64_w, i32_w]
        rfl
      refine pure_ (i := 10) (N := some 61) (v := ?_) (a' := ?_) #[true, true, true, true, true, true, true, true, true, true, true, false, false, false, false, false, false, false, false] rfl rfl (by kernel_rfl) (fun _ _ _ h => h) (Or.inl ⟨by rfl, ?_⟩) ?_ ?_
      rotate_left
      · intro w'
        go_simp
        first | with_reducible rfl | rfl
      rotate_left
      · simp only [Act.put, List.setIfInBounds_toArray, List.set_cons_zero, List.set_cons_succ, i64_w, i32_w]
        rfl
      refine take_ (i := 11) (N := some 62) (v := ?_) (a' := ?_) #[true, true, true, true, true, true, true, true, true, true, true, true, false, false, false, false, false, false, false] rfl rfl (by kernel_rfl) (fun _ _ _ h => h) (Or.inl ⟨by rfl, ?_⟩) hHeld ?_ ?_
      rotate_left
      · rintro w' s0
        go_simp
        first | with_reducible rfl | rfl
      rotate_left
      · simp only [Act.put, List.setIfInBounds_toArray, List.set_cons_zero, List.set_cons_succ, i64_w, i32_w]
        rfl
      refine pure_ (i := 12) (N := some 63) (v := ?_) (a' := ?_) #[true, true, true, true, true, true, true, true, true, true, true, true, true, false, false, false, false, false, false] rfl rfl (by kernel_rfl) (fun _ _ _ h => h) (Or.inl ⟨by rfl, ?_⟩) ?_ ?_
      rotate_left
      · intro w'
        go_simp
        first | with_reducible rfl | rfl
      rotate_left
      · simp only [Act.put, List.setIfInBounds_toArray, List.set_cons_zero, List.set_cons_succ, i64_w, i32_w]
        rfl
      refine pure_ (i := 13) (N := some 64) (v := ?_) (a' := ?_) #[true, true, true, true, true, true, true, true, true, true, true, true, true, true, false, false, false, false, false] rfl rfl (by kernel_rfl) (fun _ _ _ h => h) (Or.inl ⟨by rfl, ?_⟩) ?_ ?_
      rotate_left
      · intro w'
        go_simp
        first | with_reducible rfl | rfl
      rotate_left
      · simp only [Act.put, List.setIfInBounds_toArray, List.set_cons_zero, List.set_cons_succ, i64_w, i32_w]
        rfl
      refine pure_ (i := 14) (N := some 65) (v := ?_) (a' := ?_) #[true, true, true, true, true, true, true, true, true, true, true, true, true, true, true, false, false, false, false] rfl rfl (by kernel_rfl) (fun _ _ _ h => h) (Or.inl ⟨by rfl, ?_⟩) ?_ ?_
      rotate_left
      · intro w'
        go_simp
        first | with_reducible rfl | rfl
      rotate_left
      · simp only [Act.put, List.setIfInBounds_toArray, List.set_cons_zero, List.set_cons_succ, i64_w, i32_w]
        rfl
      refine last_ (i := 15) (N := some 66) #[true, true, true, true, true, true, true, true, true, true, true, true, true, true, true, true, false, false, false] rfl rfl (by kernel_rfl) (by decide) (fun K hK => ?_)
      refine step_append_loose _ B (by rfl) (.tmp 58) (.tmp 65) 44 30 _ 3 24 rfl Try.underlying44 info30 rfl (by decide) (by decide) (.slice (some ⟨b, 0, none⟩) i i) i ((l.take i).flatMap enc3) ((l.drop (i + 1)).flatMap enc3) _ _ _ rfl rfl ?nl2 (flat_one _) ?row2 ?src2 ?low2 ?len2 ?go2
      case nl2 => rw [flat_len, List.length_drop]
      case row2 => exact (by have h := LRow.cut hs1.out.row (Nat.le_of_lt q2); rw [flat_take l i (Nat.le_of_lt q2)] at h; exact h.move (fun k hk => (Below.heap_alloc w1 _ k (hs1.out.row.lt k hk).1)))
      case src2 => exact .inr ⟨_, rfl, fun j u hj => by rw [flat_drop l (i + 1) q2] at hj; have h := hs1.out.row.cell _ u hj; rw [add_plain] at h; rw [add_at]; exact (((Below.refl _ _).alloc (Nat.le_refl _) _).drew.cell (p := ⟨b, (i + 1) * 3 + j, none⟩) hbl).trans h⟩
      case low2 => exact Nat.le_trans HB0.out (Nat.le_trans (hbb.out _ hb.out).size (by simp))
      case len2 => have h := lenOk l i HL.out q2; first | exact h.1 | exact h.2
      case go2 =>
        intro v1 w2 hrow hg hr1
        obtain ⟨A2, c2, rfl, _⟩ := hrow.slice
        have hWb : Below w.heap.size w ((w1.alloc (.cells #[.int .i64 x.f0, .int .i64 x.f1, .int .i64 x.f2] 30)).drew) := ((hbb.out _ hb.out).alloc (hbb.out _ hb.out).size _).drew
        have hsz := (hbb.out _ hb.out).size
        have hw1 : w.heap.size < w1.heap.size := hbs.out _ hb.out
        have hrw : LRow w2 B 30 3 (.slice A2 (i + (l.length - (i + 1))) c2) (l.eraseIdx i).length ((l.eraseIdx i).flatMap enc3) := by rw [erase_eq, flat_append, List.length_append, List.length_take, List.length_drop, Nat.min_eq_left (Nat.le_of_lt q2)]; first | exact hrow | (rw [Nat.sub_eq_zero_of_le hlc]; exact hrow)
        have hfin := take_left (r := w.heap.size) HS.out (by decide) hWb (Nat.le_refl _) (by simp; omega) hg hrw hr1 (.int .i64 x.f0) (.int .i64 x.f1) (.int .i64 x.f2)
        have hbw : b < w.heap.size := (HS.out.row.lt b rfl).1
        obtain ⟨g0, g1, hV⟩ := take_cells HS.out (by decide) hb.out hg hbw
        replace hfin := Lib.hid hfin
        replace hV := Lib.hid hV
        clear hrow hg hr1 hWb hrw
        refine hK.out _ _ ?_
        clear hK K
        refine norm_ (a' := ?_) ?_ ?_
        rotate_left
        · show Act.put _ (some 66) _ = _
          simp only [Act.put, List.setIfInBounds_toArray, List.set_cons_zero, List.set_cons_succ, i64_w, i32_w]
          rfl
        refine pure_ (i := 16) (N := some 67) (v := ?_) (a' := ?_) #[true, true, true, true, true, true, true, true, true, true, true, true, true, true, true, true, true, false, false] rfl rfl (by kernel_rfl) (fun _ _ _ h => h) (Or.inl ⟨by rfl, ?_⟩) ?_ ?_
        rotate_left
        · intro w'
          go_simp
          first | with_reducible rfl | rfl
        rotate_left
        · simp only [Act.put, List.setIfInBounds_toArray, List.set_cons_zero, List.set_cons_succ, i64_w, i32_w]
          rfl
        refine pure_ (i := 17) (N := some 68) (v := ?_) (a' := ?_) #[true, true, true, true, true, true, true, true, true, true, true, true, true, true, true, true, true, true, false] rfl rfl (by kernel_rfl) (fun _ _ _ h => h) (Or.inl ⟨by rfl, ?_⟩) ?_ ?_
        rotate_left
        · intro w'
          go_simp
          first | with_reducible rfl | rfl
        rotate_left
        · simp only [Act.put, List.setIfInBounds_toArray, List.set_cons_zero, List.set_cons_succ, i64_w, i32_w]
          rfl
        refine last_ (i := 18) (N := none) #[true, true, true, true, true, true, true, true, true, true, true, true, true, true, true, true, true, true, true] rfl rfl (by kernel_rfl) (by decide) (fun K hK => ?_)
        refine skip_ (w1 := ?_) (by rfl) rfl ?_ ?_
        rotate_left
        · go_simp
          rfl
        refine hK.out _ _ ?_
        clear hK K
        refine done_ (by kernel_rfl) ?_
        obtain ⟨j0, j1, j2, r1, r2, r3, r4, r5⟩ := hV.out (.slice A2 (i + (l.length - (i + 1))) c2)
        replace r2 := Lib.hid r2
        clear hV
        go_wp2_with fail
        refine bodyPost_ret (v := .tuple #[.agg #[.int .i64 x.f0, .int .i64 x.f1, .int .i64 x.f2], .bool true]) (results_ct Try.results14 _ _ w.heap.size 30 #[.int .i64 x.f0, .int .i64 x.f1, .int .i64 x.f2] (0, 0) _ rfl ((blk_set (blk_set (blk_set r2.out 0 _) 1 _) 2 _).trans rfl) Try.underlying30 rfl (by kernel_rfl)) rfl (And.intro ?_ ?_)
        · rw [hx.out]
        · exact hfin.out
  · have e3 : decide (p.tmod (R.length : Int) < 0) = true := decide_eq_true m0
    rw [hkk] at m1 hn1 hn2
    have m2 : wrap64 (p.tmod (R.length : Int) + (R.length : Int)) = (kk : Int) := by rw [m1]; exact wrap_small kk R.length hkn hnl
    clear hkk m0
    go_enter Try.func14, Try.ntmps14
    go_wp2_with fail
    refine HB.out.mono ?_
    rintro e w1 ⟨va, rfl, hat, hb⟩
    rw [hR.out] at hat
    obtain ⟨A1, c1, rfl, _⟩ := LRow.slice hat
    obtain ⟨b1, rfl, hk1⟩ : ∃ b1, A1 = some ⟨b1, 0, none⟩ ∧ w1.cell? ⟨b1, kk, none⟩ = some (.int .i64 (i : Int)) := by
      rcases hat.2 with ⟨h3, h4⟩ | ⟨b1, cap, cur, h3, _⟩
      · omega
      · injection h3 with h3 _ _
        subst h3
        refine ⟨b1, rfl, ?_⟩
        have := LRow.cell hat kk (.int .i64 (i : Int)) (by rw [List.getElem?_map, ← q1.out, List.getD_eq_getElem?_getD, List.getElem?_eq_getElem (by omega)]; rfl)
        rwa [add_plain] at this
    have hs1 : SetIs 58 30 w1 B g v l := (HS.out.step ((Below.refl _ _).alloc (Nat.le_refl _) _)).step hb
    obtain ⟨A, c, rfl, hlc⟩ := hs1.slice
    obtain ⟨b, rfl, c0, c1_, c2_⟩ := hs1.elem i q2
    have hcg := hs1.cell
    have hbl : b < w1.heap.size := World.block_lt_of_cell? w1 _ c0
    have hg1 := hs1.lt
    generalize hx : l.getD i z30 = x at *
    replace hx := Lib.hid hx
    have hbb : ∀ (w1 : World), Below (w.alloc (.cells #[.int .i64 0, .int .i64 0, .int .i64 0] 30)).heap.size (w.alloc (.cells #[.int .i64 0, .int .i64 0, .int .i64 0] 30)) w1 → Below w.heap.size w w1 := fun w1 hb => ((Below.refl _ _).alloc (Nat.le_refl _) _).trans (hb.mono (by simp))
    have hbs : ∀ (w1 : World), Below (w.alloc (.cells #[.int .i64 0, .int .i64 0, .int .i64 0] 30)).heap.size (w.alloc (.cells #[.int .i64 0, .int .i64 0, .int .i64 0] 30)) w1 → w.heap.size < w1.heap.size := fun w1 hb => Nat.lt_of_lt_of_le (by simp) hb.size
    replace hbb := Lib.hid hbb
    replace hbs := Lib.hid hbs
    have hir : i < 10000 := Nat.lt_of_lt_of_le q2 hl
    have hic : i + 1 ≤ c := Nat.le_trans q2 hlc
    have hic' : i ≤ c := Nat.le_of_succ_le hic
    replace hat := Lib.hid hat
    replace hb := Lib.hid hb
    replace hs1 := Lib.hid hs1
    have q2i : (i : Int) < (l.length : Int) := by omega
    go_wp2_with fail
    rcases Nat.eq_or_lt_of_le hic with hcc | hcc
    · subst hcc
      obtain ⟨x1, x2, x3, x4, x5⟩ := idx_facts i l.length q2 hir
      refine start_ (n := 19) (S := fun w' => w'.cell? ⟨g, 0, none⟩ = some (.slice (some ⟨b, 0, none⟩) l.length (i + 1))) (ds := [15, 18]) #[false, false, false, false, false, false, false, false, false, false, false, false, false, false, false, false, false, false, false] (by kernel_rfl) rfl rfl (by go_simp) (fun hHeld => ?_)
      refine pure_ (i := 0) (N := some 51) (v := ?_) (a' := ?_) #[true, false, false, false, false, false, false, false, false, false, false, false, false, false, false, false, false, false, false] rfl rfl (by kernel_rfl) (fun _ _ _ h => h) (Or.inl ⟨by rfl, ?_⟩) ?_ ?_
      rotate_left
      · intro w'
        go_simp
        first | with_reducible rfl | rfl
      rotate_left
      · simp only [Act.put, List.setIfInBounds_toArray, List.set_cons_zero, List.set_cons_succ, i64_w, i32_w]
        rfl
      refine pure_ (i := 1) (N := some 52) (v := ?_) (a' := ?_) #[true, true, false, false, false, false, false, false, false, false, false, false, false, false, false, false, false, false, false] rfl rfl (by kernel_rfl) (fun _ _ _ h => h) (Or.inl ⟨by rfl, ?_⟩) ?_ ?_
      rotate_left
      · intro w'
        go_simp
        first | with_reducible rfl | rfl
      rotate_left
      · simp only [Act.put, List.setIfInBounds_toArray, List.set_cons_zero, List.set_cons_succ, i64_w, i32_w]
        rfl
      refine pure_ (i := 2) (N := some 53) (v := ?_) (a' := ?_) #[true, true, true, false, false, false, false, false, false, false, false, false, false, false, false, false, false, false, false] rfl rfl (by kernel_rfl) (fun _ _ _ h => h) (Or.inl ⟨by rfl, ?_⟩) ?_ ?_
      rotate_left
      · intro w'
        go_simp
        first | with_reducible rfl | rfl
      rotate_left
      · simp only [Act.put, List.setIfInBounds_toArray, List.set_cons_zero, List.set_cons_succ, i64_w, i32_w]
        rfl
      refine pure_ (i := 3) (N := some 54) (v := ?_) (a' := ?_) #[true, true, true, true, false, false, false, false, false, false, false, false, false, false, false, false, false, false, false] rfl rfl (by kernel_rfl) (fun _ _ _ h => h) (Or.inl ⟨by rfl, ?_⟩) ?_ ?_
      rotate_left
      · intro w'
        go_simp
        first | with_reducible rfl | rfl
      rotate_left
      · simp only [Act.put, List.setIfInBounds_toArray, List.set_cons_zero, List.set_cons_succ, i64_w, i32_w]
        rfl
      refine take_ (i := 4) (N := some 55) (v := ?_) (a' := ?_) #[true, true, true, true, true, false, false, false, false, false, false, false, false, false, false, false, false, false, false] rfl rfl (by kernel_rfl) (fun _ _ _ h => h) (Or.inl ⟨by rfl, ?_⟩) hHeld ?_ ?_
      rotate_left
      · rintro w' s0
        go_simp
        first | with_reducible rfl | rfl
      rotate_left
      · simp only [Act.put, List.setIfInBounds_toArray, List.set_cons_zero, List.set_cons_succ, i64_w, i32_w]
        rfl
      refine pure_ (i := 5) (N := some 56) (v := ?_) (a' := ?_) #[true, true, true, true, true, true, false, false, false, false, false, false, false, false, false, false, false, false, false] rfl rfl (by kernel_rfl) (fun _ _ _ h => h) (Or.inl ⟨by rfl, ?_⟩) ?_ ?_
      rotate_left
      · intro w'
        go_simp
        first | with_reducible rfl | rfl
      rotate_left
      · simp only [Act.put, List.setIfInBounds_toArray, List.set_cons_zero, List.set_cons_succ, i64_w, i32_w]
        rfl
      refine pure_ (i := 6) (N := some 57) (v := ?_) (a' := ?_) #[true, true, true, true, true, true, true, false, false, false, false, false, false, false, false, false, false, false, false] rfl rfl (by kernel_rfl) (fun _ _ _ h => h) (Or.inl ⟨by rfl, ?_⟩) ?_ ?_
      rotate_left
      · intro w'
        go_simp
        first | with_reducible rfl | rfl
      rotate_left
      · simp only [Act.put, List.setIfInBounds_toArray, List.set_cons_zero, List.set_cons_succ, i64_w, i32_w]
        rfl
      refine pure_ (i := 7) (N := some 58) (v := ?_) (a' := ?_) #[true, true, true, true, true, true, true, true, false, false, false, false, false, false, false, false, false, false, false] rfl rfl (by kernel_rfl) (fun _ _ _ h => h) (Or.inl ⟨by rfl, ?_⟩) ?_ ?_
      rotate_left
      · intro w'
        go_simp
        first | with_reducible rfl | rfl
      rotate_left
      · simp only [Act.put, List.setIfInBounds_toArray, List.set_cons_zero, List.set_cons_succ, i64_w, i32_w]
        rfl
      refine pure_ (i := 8) (N := some 59) (v := ?_) (a' := ?_) #[true, true, true, true, true, true, true, true, true, false, false, false, false, false, false, false, false, false, false] rfl rfl (by kernel_rfl) (fun _ _ _ h => h) (Or.inl ⟨by rfl, ?_⟩) ?_ ?_
      rotate_left
      · intro w'
        go_simp
        first | with_reducible rfl | rfl
      rotate_left
      · simp only [Act.put, List.setIfInBounds_toArray, List.set_cons_zero, List.set_cons_succ, i64_w, i32_w]
        rfl
      refine pure_ (i := 9) (N := some 60) (v := ?_) (a' := ?_) #[true, true, true, true, true, true, true, true, true, true, false, false, false, false, false, false, false, false, false] rfl rfl (by kernel_rfl) (fun _ _ _ h => h) (Or.inl ⟨by rfl, ?_⟩) ?_ ?_
      rotate_left
      · intro w'
        go_simp
        first | with_reducible rfl | rfl
      rotate_left
      · simp only [Act.put, List.setIfInBounds_toArray, List.set_cons_zero, List.set_cons_succ, i64_w, i32_w]
        rfl
      refine pure_ (i := 10) (N := some 61) (v := ?_) (a' := ?_) #[true, true, true, true, true, true, true, true, true, true, true, false, false, false, false, false, false, false, false] rfl rfl (by kernel_rfl) (fun _ _ _ h => h) (Or.inl ⟨by rfl, ?_⟩) ?_ ?_
      rotate_left
      · intro w'
        go_simp
        first | with_reducible rfl | rfl
      rotate_left
      · simp only [Act.put, List.setIfInBounds_toArray, List.set_cons_zero, List.set_cons_succ, i64_w, i32_w]
        rfl
      refine take_ (i := 11) (N := some 62) (v := ?_) (a' := ?_) #[true, true, true, true, true, true, true, true, true, true, true, true, false, false, false, false, false, false, false] rfl rfl (by kernel_rfl) (fun _ _ _ h => h) (Or.inl ⟨by rfl, ?_⟩) hHeld ?_ ?_
      rotate_left
      · rintro w' s0
        go_simp
        first | with_reducible rfl | rfl
      rotate_left
      · simp only [Act.put, List.setIfInBounds_toArray, List.set_cons_zero, List.set_cons_succ, i64_w, i32_w]
        rfl
      refine pure_ (i := 12) (N := some 63) (v := ?_) (a' := ?_) #[true, true, true, true, true, true, true, true, true, true, true, true, true, false, false, false, false, false, false] rfl rfl (by kernel_rfl) (fun _ _ _ h => h) (Or.inl ⟨by rfl, ?_⟩) ?_ ?_
      rotate_left
      · intro w'
        go_simp
        first | with_reducible rfl | rfl
      rotate_left
      · simp only [Act.put, List.setIfInBounds_toArray, List.set_cons_zero, List.set_cons_succ, i64_w, i32_w]
        rfl
      refine pure_ (i := 13) (N := some 64) (v := ?_) (a' := ?_) #[true, true, true, true, true, true, true, true, true, true, true, true, true, true, false, false, false, false, false] rfl rfl (by kernel_rfl) (fun _ _ _ h => h) (Or.inl ⟨by rfl, ?_⟩) ?_ ?_
      rotate_left
      · intro w'
        go_simp
        first | with_reducible rfl | rfl
      rotate_left
      · simp only [Act.put, List.setIfInBounds_toArray, List.set_cons_zero, List.set_cons_succ, i64_w, i32_w]
        rfl
      refine pure_ (i := 14) (N := some 65) (v := ?_) (a' := ?_) #[true, true, true, true, true, true, true, true, true, true, true, true, true, true, true, false, false, false, false] rfl rfl (by kernel_rfl) (fun _ _ _ h => h) (Or.inl ⟨by rfl, ?_⟩) ?_ ?_
      rotate_left
      · intro w'
        go_simp
        first | with_reducible rfl | rfl
      rotate_left
      · simp only [Act.put, List.setIfInBounds_toArray, List.set_cons_zero, List.set_cons_succ, i64_w, i32_w]
        rfl
      refine last_ (i := 15) (N := some 66) #[true, true, true, true, true, true, true, true, true, true, true, true, true, true, true, true, false, false, false] rfl rfl (by kernel_rfl) (by decide) (fun K hK => ?_)
      refine step_append_loose _ B (by rfl) (.tmp 58) (.tmp 65) 44 30 _ 3 24 rfl Try.underlying44 info30 rfl (by decide) (by decide) (.slice (some ⟨b, 0, none⟩) i i) i ((l.take i).flatMap enc3) ((l.drop (i + 1)).flatMap enc3) _ _ _ rfl rfl ?nl3 (flat_one _) ?row3 ?src3 ?low3 ?len3 ?go3
      case nl3 => rw [flat_len, List.length_drop]; rw [Nat.sub_eq_zero_of_le hlc]
      case row3 => exact (by have h := LRow.cut hs1.out.row (Nat.le_of_lt q2); rw [flat_take l i (Nat.le_of_lt q2)] at h; exact h.move (fun k hk => (Below.heap_alloc w1 _ k (hs1.out.row.lt k hk).1)))
      case src3 => exact .inr ⟨_, rfl, fun j u hj => by rw [List.drop_of_length_le hlc] at hj; simp at hj⟩
      case low3 => exact Nat.le_trans HB0.out (Nat.le_trans (hbb.out _ hb.out).size (by simp))
      case len3 => have h := lenOk l i HL.out q2; first | exact h.1 | exact h.2
      case go3 =>
        intro v1 w2 hrow hg hr1
        obtain ⟨A2, c2, rfl, _⟩ := hrow.slice
        have hWb : Below w.heap.size w ((w1.alloc (.cells #[.int .i64 x.f0, .int .i64 x.f1, .int .i64 x.f2] 30)).drew) := ((hbb.out _ hb.out).alloc (hbb.out _ hb.out).size _).drew
        have hsz := (hbb.out _ hb.out).size
        have hw1 : w.heap.size < w1.heap.size := hbs.out _ hb.out
        have hrw : LRow w2 B 30 3 (.slice A2 (i + 0) c2) (l.eraseIdx i).length ((l.eraseIdx i).flatMap enc3) := by rw [erase_eq, flat_append, List.length_append, List.length_take, List.length_drop, Nat.min_eq_left (Nat.le_of_lt q2)]; first | exact hrow | (rw [Nat.sub_eq_zero_of_le hlc]; exact hrow)
        have hfin := take_left (r := w.heap.size) HS.out (by decide) hWb (Nat.le_refl _) (by simp; omega) hg hrw hr1 (.int .i64 x.f0) (.int .i64 x.f1) (.int .i64 x.f2)
        have hbw : b < w.heap.size := (HS.out.row.lt b rfl).1
        obtain ⟨g0, g1, hV⟩ := take_cells HS.out (by decide) hb.out hg hbw
        replace hfin := Lib.hid hfin
        replace hV := Lib.hid hV
        clear hrow hg hr1 hWb hrw
        refine hK.out _ _ ?_
        clear hK K
        refine norm_ (a' := ?_) ?_ ?_
        rotate_left
        · show Act.put _ (some 66) _ = _
          simp only [Act.put, List.setIfInBounds_toArray, List.set_cons_zero, List.set_cons_succ, i64_w, i32_w]
          rfl
        refine pure_ (i := 16) (N := some 67) (v := ?_) (a' := ?_) #[true, true, true, true, true, true, true, true, true, true, true, true, true, true, true, true, true, false, false] rfl rfl (by kernel_rfl) (fun _ _ _ h => h) (Or.inl ⟨by rfl, ?_⟩) ?_ ?_
        rotate_left
        · intro w'
          go_simp
          first | with_reducible rfl | rfl
        rotate_left
        · simp only [Act.put, List.setIfInBounds_toArray, List.set_cons_zero, List.set_cons_succ, i64_w, i32_w]
          rfl
        refine pure_ (i := 17) (N := some 68) (v := ?_) (a' := ?_) #[true, true, true, true, true, true, true, true, true, true, true, true, true, true, true, true, true, true, false] rfl rfl (by kernel_rfl) (fun _ _ _ h => h) (Or.inl ⟨by rfl, ?_⟩) ?_ ?_
        rotate_left
        · intro w'
          go_simp
          first | with_reducible rfl | rfl
        rotate_left
        · simp only [Act.put, List.setIfInBounds_toArray, List.set_cons_zero, List.set_cons_succ, i64_w, i32_w]
          rfl
        refine last_ (i := 18) (N := none) #[true, true, true, true, true, true, true, true, true, true, true, true, true, true, true, true, true, true, true] rfl rfl (by kernel_rfl) (by decide) (fun K hK => ?_)
        refine skip_ (w1 := ?_) (by rfl) rfl ?_ ?_
        rotate_left
        · go_simp
          rfl
        refine hK.out _ _ ?_
        clear hK K
        refine done_ (by kernel_rfl) ?_
        obtain ⟨j0, j1, j2, r1, r2, r3, r4, r5⟩ := hV.out (.slice A2 (i) c2)
        replace r2 := Lib.hid r2
        clear hV
        go_wp2_with fail
        refine bodyPost_ret (v := .tuple #[.agg #[.int .i64 x.f0, .int .i64 x.f1, .int .i64 x.f2], .bool true]) (results_ct Try.results14 _ _ w.heap.size 30 #[.int .i64 x.f0, .int .i64 x.f1, .int .i64 x.f2] (0, 0) _ rfl ((blk_set (blk_set (blk_set r2.out 0 _) 1 _) 2 _).trans rfl) Try.underlying30 rfl (by kernel_rfl)) rfl (And.intro ?_ ?_)
        · rw [hx.out]
        · exact hfin.out
    · have hcn : ¬ c = i + 1 := Nat.ne_of_gt hcc
      obtain ⟨x1, x2, x3, x4, x5⟩ := idx_facts i l.length q2 hir
      refine start_ (n := 19) (S := fun w' => w'.cell? ⟨g, 0, none⟩ = some (.slice (some ⟨b, 0, none⟩) l.length c)) (ds := [15, 18]) #[false, false, false, false, false, false, false, false, false, false, false, false, false, false, false, false, false, false, false] (by kernel_rfl) rfl rfl (by go_simp) (fun hHeld => ?_)
      refine pure_ (i := 0) (N := some 51) (v := ?_) (a' := ?_) #[true, false, false, false, false, false, false, false, false, false, false, false, false, false, false, false, false, false, false] rfl rfl (by kernel_rfl) (fun _ _ _ h => h) (Or.inl ⟨by rfl, ?_⟩) ?_ ?_
      rotate_left
      · intro w'
        go_simp
        first | with_reducible rfl | rfl
      rotate_left
      · simp only [Act.put, List.setIfInBounds_toArray, List.set_cons_zero, List.set_cons_succ, i64_w, i32_w]
        rfl
      refine pure_ (i := 1) (N := some 52) (v := ?_) (a' := ?_) #[true, true, false, false, false, false, false, false, false, false, false, false, false, false, false, false, false, false, false] rfl rfl (by kernel_rfl) (fun _ _ _ h => h) (Or.inl ⟨by rfl, ?_⟩) ?_ ?_
      rotate_left
      · intro w'
        go_simp
        first | with_reducible rfl | rfl
      rotate_left
      · simp only [Act.put, List.setIfInBounds_toArray, List.set_cons_zero, List.set_cons_succ, i64_w, i32_w]
        rfl
      refine pure_ (i := 2) (N := some 53) (v := ?_) (a' := ?_) #[true, true, true, false, false, false, false, false, false, false, false, false, false, false, false, false, false, false, false] rfl rfl (by kernel_rfl) (fun _ _ _ h => h) (Or.inl ⟨by rfl, ?_⟩) ?_ ?_
      rotate_left
      · intro w'
        go_simp
        first | with_reducible rfl | rfl
      rotate_left
      · simp only [Act.put, List.setIfInBounds_toArray, List.set_cons_zero, List.set_cons_succ, i64_w, i32_w]
        rfl
      refine pure_ (i := 3) (N := some 54) (v := ?_) (a' := ?_) #[true, true, true, true, false, false, false, false, false, false, false, false, false, false, false, false, false, false, false] rfl rfl (by kernel_rfl) (fun _ _ _ h => h) (Or.inl ⟨by rfl, ?_⟩) ?_ ?_
      rotate_left
      · intro w'
        go_simp
        first | with_reducible rfl | rfl
      rotate_left
      · simp only [Act.put, List.setIfInBounds_toArray, List.set_cons_zero, List.set_cons_succ, i64_w, i32_w]
        rfl
      refine take_ (i := 4) (N := some 55) (v := ?_) (a' := ?_) #[true, true, true, true, true, false, false, false, false, false, false, false, false, false, false, false, false, false, false] rfl rfl (by kernel_rfl) (fun _ _ _ h => h) (Or.inl ⟨by rfl, ?_⟩) hHeld ?_ ?_
      rotate_left
      · rintro w' s0
        go_simp
        first | with_reducible rfl | rfl
      rotate_left
      · simp only [Act.put, List.setIfInBounds_toArray, List.set_cons_zero, List.set_cons_succ, i64_w, i32_w]
        rfl
      refine pure_ (i := 5) (N := some 56) (v := ?_) (a' := ?_) #[true, true, true, true, true, true, false, false, false, false, false, false, false, false, false, false, false, false, false] rfl rfl (by kernel_rfl) (fun _ _ _ h => h) (Or.inl ⟨by rfl, ?_⟩) ?_ ?_
      rotate_left
      · intro w'
        go_simp
        first | with_reducible rfl | rfl
      rotate_left
      · simp only [Act.put, List.setIfInBounds_toArray, List.set_cons_zero, List.set_cons_succ, i64_w, i32_w]
        rfl
      refine pure_ (i := 6) (N := some 57) (v := ?_) (a' := ?_) #[true, true, true, true, true, true, true, false, false, false, false, false, false, false, false, false, false, false, false] rfl rfl (by kernel_rfl) (fun _ _ _ h => h) (Or.inl ⟨by rfl, ?_⟩) ?_ ?_
      rotate_left
      · intro w'
        go_simp
        first | with_reducible rfl | rfl
      rotate_left
      · simp only [Act.put, List.setIfInBounds_toArray, List.set_cons_zero, List.set_cons_succ, i64_w, i32_w]
        rfl
      refine pure_ (i := 7) (N := some 58) (v := ?_) (a' := ?_) #[true, true, true, true, true, true, true, true, false, false, false, false, false, false, false, false, false, false, false] rfl rfl (by kernel_rfl) (fun _ _ _ h => h) (Or.inl ⟨by rfl, ?_⟩) ?_ ?_
      rotate_left
      · intro w'
        go_simp
        first | with_reducible rfl | rfl
      rotate_left
      · simp only [Act.put, List.setIfInBounds_toArray, List.set_cons_zero, List.set_cons_succ, i64_w, i32_w]
        rfl
      refine pure_ (i := 8) (N := some 59) (v := ?_) (a' := ?_) #[true, true, true, true, true, true, true, true, true, false, false, false, false, false, false, false, false, false, false] rfl rfl (by kernel_rfl) (fun _ _ _ h => h) (Or.inl ⟨by rfl, ?_⟩) ?_ ?_
      rotate_left
      · intro w'
        go_simp
        first | with_reducible rfl | rfl
      rotate_left
      · simp only [Act.put, List.setIfInBounds_toArray, List.set_cons_zero, List.set_cons_succ, i64_w, i32_w]
        rfl
      refine pure_ (i := 9) (N := some 60) (v := ?_) (a' := ?_) #[true, true, true, true, true, true, true, true, true, true, false, false, false, false, false, false, false, false, false] rfl rfl (by kernel_rfl) (fun _ _ _ h => h) (Or.inl ⟨by rfl, ?_⟩) ?_ ?_
      rotate_left
      · intro w'
        go_simp
        first | with_reducible rfl | rfl
      rotate_left
      · simp only [Act.put, List.setIfInBounds_toArray, List.set_cons_zero, List.set_cons_succ, i64_w, i32_w]
        rfl
      refine pure_ (i := 10) (N := some 61) (v := ?_) (a' := ?_) #[true, true, true, true, true, true, true, true, true, true, true, false, false, false, false, false, false, false, false] rfl rfl (by kernel_rfl) (fun _ _ _ h => h) (Or.inl ⟨by rfl, ?_⟩) ?_ ?_
      rotate_left
      · intro w'
        go_simp
        first | with_reducible rfl | rfl
      rotate_left
      · simp only [Act.put, List.setIfInBounds_toArray, List.set_cons_zero, List.set_cons_succ, i64_w, i32_w]
        rfl
      refine take_ (i := 11) (N := some 62) (v := ?_) (a' := ?_) #[true, true, true, true, true, true, true, true, true, true, true, true, false, false, false, false, false, false, false] rfl rfl (by kernel_rfl) (fun _ _ _ h => h) (Or.inl ⟨by rfl, ?_⟩) hHeld ?_ ?_
      rotate_left
      · rintro w' s0
        go_simp
        first | with_reducible rfl | rfl
      rotate_left
      · simp only [Act.put, List.setIfInBounds_toArray, List.set_cons_zero, List.set_cons_succ, i64_w, i32_w]
        rfl
      refine pure_ (i := 12) (N := some 63) (v := ?_) (a' := ?_) #[true, true, true, true, true, true, true, true, true, true, true, true, true, false, false, false, false, false, false] rfl rfl (by kernel_rfl) (fun _ _ _ h => h) (Or.inl ⟨by rfl, ?_⟩) ?_ ?_
      rotate_left
      · intro w'
        go_simp
        first | with_reducible rfl | rfl
      rotate_left
      · simp only [Act.put, List.setIfInBounds_toArray, List.set_cons_zero, List.set_cons_succ, i64_w, i32_w]
        rfl
      refine pure_ (i := 13) (N := some 64) (v := ?_) (a' := ?_) #[true, true, true, true, true, true, true, true, true, true, true, true, true, true, false, false, false, false, false] rfl rfl (by kernel_rfl) (fun _ _ _ h => h) (Or.inl ⟨by rfl, ?_⟩) ?_ ?_
      rotate_left
      · intro w'
        go_simp
        first | with_reducible rfl | rfl
      rotate_left
      · simp only [Act.put, List.setIfInBounds_toArray, List.set_cons_zero, List.set_cons_succ, i64_w, i32_w]
        rfl
      refine pure_ (i := 14) (N := some 65) (v := ?_) (a' := ?_) #[true, true, true, true, true, true, true, true, true, true, true, true, true, true, true, false, false, false, false] rfl rfl (by kernel_rfl) (fun _ _ _ h => h) (Or.inl ⟨by rfl, ?_⟩) ?_ ?_
      rotate_left
      · intro w'
        go_simp
        first | with_reducible rfl | rfl
      rotate_left
      · simp only [Act.put, List.setIfInBounds_toArray, List.set_cons_zero, List.set_cons_succ, i64_w, i32_w]
        rfl
      refine last_ (i := 15) (N := some 66) #[true, true, true, true, true, true, true, true, true, true, true, true, true, true, true, true, false, false, false] rfl rfl (by kernel_rfl) (by decide) (fun K hK => ?_)
      refine step_append_loose _ B (by rfl) (.tmp 58) (.tmp 65) 44 30 _ 3 24 rfl Try.underlying44 info30 rfl (by decide) (by decide) (.slice (some ⟨b, 0, none⟩) i i) i ((l.take i).flatMap enc3) ((l.drop (i + 1)).flatMap enc3) _ _ _ rfl rfl ?nl4 (flat_one _) ?row4 ?src4 ?low4 ?len4 ?go4
      case nl4 => rw [flat_len, List.length_drop]
      case row4 => exact (by have h := LRow.cut hs1.out.row (Nat.le_of_lt q2); rw [flat_take l i (Nat.le_of_lt q2)] at h; exact h.move (fun k hk => (Below.heap_alloc w1 _ k (hs1.out.row.lt k hk).1)))
      case src4 => exact .inr ⟨_, rfl, fun j u hj => by rw [flat_drop l (i + 1) q2] at hj; have h := hs1.out.row.cell _ u hj; rw [add_plain] at h; rw [add_at]; exact (((Below.refl _ _).alloc (Nat.le_refl _) _).drew.cell (p := ⟨b, (i + 1) * 3 + j, none⟩) hbl).trans h⟩
      case low4 => exact Nat.le_trans HB0.out (Nat.le_trans (hbb.out _ hb.out).size (by simp))
      case len4 => have h := lenOk l i HL.out q2; first | exact h.1 | exact h.2
      case go4 =>
        intro v1 w2 hrow hg hr1
        obtain ⟨A2, c2, rfl, _⟩ := hrow.slice
        have hWb : Below w.heap.size w ((w1.alloc (.cells #[.int .i64 x.f0, .int .i64 x.f1, .int .i64 x.f2] 30)).drew) := ((hbb.out _ hb.out).alloc (hbb.out _ hb.out).size _).drew
        have hsz := (hbb.out _ hb.out).size
        have hw1 : w.heap.size < w1.heap.size := hbs.out _ hb.out
        have hrw : LRow w2 B 30 3 (.slice A2 (i + (l.length - (i + 1))) c2) (l.eraseIdx i).length ((l.eraseIdx i).flatMap enc3) := by rw [erase_eq, flat_append, List.length_append, List.length_take, List.length_drop, Nat.min_eq_left (Nat.le_of_lt q2)]; first | exact hrow | (rw [Nat.sub_eq_zero_of_le hlc]; exact hrow)
        have hfin := take_left (r := w.heap.size) HS.out (by decide) hWb (Nat.le_refl _) (by simp; omega) hg hrw hr1 (.int .i64 x.f0) (.int .i64 x.f1) (.int .i64 x.f2)
        have hbw : b < w.heap.size := (HS.out.row.lt b rfl).1
        obtain ⟨g0, g1, hV⟩ := take_cells HS.out (by decide) hb.out hg hbw
        replace hfin := Lib.hid hfin
        replace hV := Lib.hid hV
        clear hrow hg hr1 hWb hrw
        refine hK.out _ _ ?_
        clear hK K
        refine norm_ (a' := ?_) ?_ ?_
        rotate_left
        · show Act.put _ (some 66) _ = _
          simp only [Act.put, List.setIfInBounds_toArray, List.set_cons_zero, List.set_cons_succ, i64_w, i32_w]
          rfl
        refine pure_ (i := 16) (N := some 67) (v := ?_) (a' := ?_) #[true, true, true, true, true, true, true, true, true, true, true, true, true, true, true, true, true, false, false] rfl rfl (by kernel_rfl) (fun _ _ _ h => h) (Or.inl ⟨by rfl, ?_⟩) ?_ ?_
        rotate_left
        · intro w'
          go_simp
          first | with_reducible rfl | rfl
        rotate_left
        · simp only [Act.put, List.setIfInBounds_toArray, List.set_cons_zero, List.set_cons_succ, i64_w, i32_w]
          rfl
        refine pure_ (i := 17) (N := some 68) (v := ?_) (a' := ?_) #[true, true, true, true, true, true, true, true, true, true, true, true, true, true, true, true, true, true, false] rfl rfl (by kernel_rfl) (fun _ _ _ h => h) (Or.inl ⟨by rfl, ?_⟩) ?_ ?_
        rotate_left
        · intro w'
          go_simp
          first | with_reducible rfl | rfl
        rotate_left
        · simp only [Act.put, List.setIfInBounds_toArray, List.set_cons_zero, List.set_cons_succ, i64_w, i32_w]
          rfl
        refine last_ (i := 18) (N := none) #[true, true, true, true, true, true, true, true, true, true, true, true, true, true, true, true, true, true, true] rfl rfl (by kernel_rfl) (by decide) (fun K hK => ?_)
        refine skip_ (w1 := ?_) (by rfl) rfl ?_ ?_
        rotate_left
        · go_simp
          rfl
        refine hK.out _ _ ?_
        clear hK K
        refine done_ (by kernel_rfl) ?_
        obtain ⟨j0, j1, j2, r1, r2, r3, r4, r5⟩ := hV.out (.slice A2 (i + (l.length - (i + 1))) c2)
        replace r2 := Lib.hid r2
        clear hV
        go_wp2_with fail
        refine bodyPost_ret (v := .tuple #[.agg #[.int .i64 x.f0, .int .i64 x.f1, .int .i64 x.f2], .bool true]) (results_ct Try.results14 _ _ w.heap.size 30 #[.int .i64 x.f0, .int .i64 x.f1, .int .i64 x.f2] (0, 0) _ rfl ((blk_set (blk_set (blk_set r2.out 0 _) 1 _) 2 _).trans rfl) Try.underlying30 rfl (by kernel_rfl)) rfl (And.intro ?_ ?_)
        · rw [hx.out]
        · exact hfin.out
end Go.Proofs.Ytojdbpeaclnmkaa.Rd
