/- The document's set: what its calls come to. -/
import Derived.Test.YtojdbpeaclnmkaaRdSame
set_option linter.unusedVariables false
set_option linter.unusedSimpArgs false
namespace Go.Proofs.Ytojdbpeaclnmkaa.Rd
open Go Go.RowKit Go.Proofs.YtojdbpeaclnmkaaW.PrintWords Go.Proofs.YtojdbpeaclnmkaaW.PrintLast Go.Proofs.YtojdbpeaclnmkaaW.PrintMore Go.Proofs.Ytojdbpeaclnmkaa Go.Proofs.Ytojdbpeaclnmkaa.Print
attribute [local go_sem] max2_int min2_int max_two min_two
set_option maxHeartbeats 1000000 in
theorem rput_ok (j : S30) (g B : Nat) (v : Value) (l : List S30) (w : World) (hs : SetIs 28 36 w B g v l) (hB : B ≤ w.heap.size) (h1 : 1 ≤ j.f1) (h2 : j.f1 ≤ 100) (h3 : l.length < 10000) :
    Calls Try.prog 12 #[.pointer (some ⟨g, 0, none⟩), .agg #[.int .i64 j.f0, .int .i64 j.f1, .int .i64 j.f2]] w fun e w' => e = .returned (.int .i64 0) ∧ Left 28 36 w w' B g v (l ++ [j]) := by
  have d1 : decide (j.f1 < 1) = false := decide_eq_false (by omega)
  have d2 : decide (100 < j.f1) = false := decide_eq_false (by omega)
  obtain ⟨A, c, rfl, hlc⟩ := hs.slice
  have hc := hs.cell
  have hlt := hs.lt
  have HS := Lib.hid hs
  clear hs
  have d3 : decide ((10000 : Int) ≤ (l.length : Int)) = false := decide_eq_false (by omega)
  clear h1 h2
  have H3 := Lib.hid h3
  have HB := Lib.hid hB
  clear h3 hlc hB
  obtain ⟨i0, hi, hz0, hz1, hz2⟩ := info_parts info36
  replace hi := Lib.hid hi
  replace hz0 := Lib.hid hz0
  replace hz1 := Lib.hid hz1
  replace hz2 := Lib.hid hz2
  go_enter Try.func12, Try.ntmps12
  go_wp2
  refine start_ (n := 11) (S := fun w' => w'.cell? ⟨g, 0, none⟩ = some (.slice A l.length c) ∧ w'.cell? ⟨w.heap.size, 0, none⟩ = some (.int .i64 j.f0) ∧ w'.cell? ⟨w.heap.size, 1, none⟩ = some (.int .i64 j.f1) ∧ w'.cell? ⟨w.heap.size, 2, none⟩ = some (.int .i64 j.f2)) (ds := [7, 10]) #[false, false, false, false, false, false, false, false, false, false, false] (by kernel_rfl) rfl rfl ⟨by go_simp, by go_simp, by go_simp, by go_simp⟩ (fun hHeld => ?_)
  refine pure_ (i := 0) (N := some 19) (v := ?_) (a' := ?_) #[true, false, false, false, false, false, false, false, false, false, false] rfl rfl (by kernel_rfl) (fun _ _ _ h => h) (Or.inl ⟨by rfl, ?_⟩) ?_ ?_
  rotate_left
  · intro w'
    go_simp
    first | with_reducible rfl | rfl
  rotate_left
  · simp only [Act.put, List.setIfInBounds_toArray, List.set_cons_zero, List.set_cons_succ, i64_w, i32_w]
    rfl
  refine pure_ (i := 1) (N := some 20) (v := ?_) (a' := ?_) #[true, true, false, false, false, false, false, false, false, false, false] rfl rfl (by kernel_rfl) (fun _ _ _ h => h) (Or.inl ⟨by rfl, ?_⟩) ?_ ?_
  rotate_left
  · intro w'
    go_simp
    first | with_reducible rfl | rfl
  rotate_left
  · simp only [Act.put, List.setIfInBounds_toArray, List.set_cons_zero, List.set_cons_succ, i64_w, i32_w]
    rfl
  refine pure_ (i := 2) (N := some 21) (v := ?_) (a' := ?_) #[true, true, true, false, false, false, false, false, false, false, false] rfl rfl (by kernel_rfl) (fun _ _ _ h => h) (Or.inl ⟨by rfl, ?_⟩) ?_ ?_
  rotate_left
  · intro w'
    go_simp
    first | with_reducible rfl | rfl
  rotate_left
  · simp only [Act.put, List.setIfInBounds_toArray, List.set_cons_zero, List.set_cons_succ, i64_w, i32_w]
    rfl
  refine pure_ (i := 3) (N := some 22) (v := ?_) (a' := ?_) #[true, true, true, true, false, false, false, false, false, false, false] rfl rfl (by kernel_rfl) (fun _ _ _ h => h) (Or.inl ⟨by rfl, ?_⟩) ?_ ?_
  rotate_left
  · intro w'
    go_simp
    first | with_reducible rfl | rfl
  rotate_left
  · simp only [Act.put, List.setIfInBounds_toArray, List.set_cons_zero, List.set_cons_succ, i64_w, i32_w]
    rfl
  refine take_ (i := 4) (N := some 23) (v := ?_) (a' := ?_) #[true, true, true, true, true, false, false, false, false, false, false] rfl rfl (by kernel_rfl) (fun _ _ _ h => h) (Or.inl ⟨by rfl, ?_⟩) hHeld ?_ ?_
  rotate_left
  · rintro w' ⟨s0, s1, s2, s3⟩
    go_simp
    first | with_reducible rfl | rfl
  rotate_left
  · simp only [Act.put, List.setIfInBounds_toArray, List.set_cons_zero, List.set_cons_succ, i64_w, i32_w]
    rfl
  refine take_ (i := 5) (N := some 24) (v := ?_) (a' := ?_) #[true, true, true, true, true, true, false, false, false, false, false] rfl rfl (by kernel_rfl) (fun _ _ _ h => h) (Or.inl ⟨by rfl, ?_⟩) hHeld ?_ ?_
  rotate_left
  · rintro w' ⟨s0, s1, s2, s3⟩
    go_simp
    first | with_reducible rfl | rfl
  rotate_left
  · simp only [Act.put, List.setIfInBounds_toArray, List.set_cons_zero, List.set_cons_succ, i64_w, i32_w]
    rfl
  refine one_ (i := 6) (N := some 25) #[true, true, true, true, true, true, true, false, false, false, false] rfl rfl (by kernel_rfl) (by decide) (fun K hK => ?_)
  refine value_ (w1 := ?_) (v := ?_) (by rfl) rfl ?_ ?_
  rotate_left 2
  · go_simp
    constructor
    · rfl
    · rfl
  refine hK.out _ _ ⟨by go_simp, by go_simp, by go_simp, by go_simp⟩ (fun hHeld => ?_)
  clear hK K
  refine norm_ (a' := ?_) ?_ ?_
  rotate_left
  · show Act.put _ (some 25) _ = _
    simp only [Act.put, List.setIfInBounds_toArray, List.set_cons_zero, List.set_cons_succ, i64_w, i32_w]
    rfl
  refine last_ (i := 7) (N := some 26) #[true, true, true, true, true, true, true, true, false, false, false] rfl rfl (by kernel_rfl) (by decide) (fun K hK => ?_)
  refine step_append_loose _ B (by rfl) (.tmp 23) (.tmp 25) 26 36 _ 3 24 rfl Try.underlying26 info36 rfl (by decide) (by decide) (.slice A l.length c) l.length (l.flatMap enc3) (enc3 j) (some ⟨_, 0, none⟩) 1 1 rfl rfl rfl ?one ?row ?src ?low ?len ?go
  case one => intro u hu; exact flat_one [j] u (by simpa using hu)
  case row => exact ((HS.out.row.move (fun k hk => Below.heap_alloc _ _ k (HS.out.row.lt k hk).1)).move (fun k hk => rfl)).move (fun k hk => Below.heap_alloc _ _ k (by have := (HS.out.row.lt k hk).1; simp; omega))
  case src => exact .inr ⟨_, rfl, by have h := World.news_of_block (cs := #[.int .i64 j.f0, .int .i64 j.f1, .int .i64 j.f2]) (t := 36) (fr := (0, 0)) (heap_alloc_new (w.alloc (.cells #[.int .i64 j.f0, .int .i64 j.f1, .int .i64 j.f2] 36)) (.cells #[.int .i64 j.f0, .int .i64 j.f1, .int .i64 j.f2] 36)); simpa [enc3] using h⟩
  case low => have := HB.out; simp; omega
  case len => have := H3.out; omega
  case go =>
    intro v1 w1 hrow hg hat
    obtain ⟨A1, c1, rfl, _⟩ := hrow.slice
    have hlt2 : g < w1.heap.size := Nat.lt_of_lt_of_le (by simp; omega) hg.size
    have hb1 : w1.heap[g]? = some (.cells #[.slice A l.length c] 28 (0, 0)) := (hg.block g (by simp; omega) (HS.out.ne (by decide))).trans ((Below.heap_alloc _ _ g (by simp; omega)).trans ((Below.heap_alloc w _ g hlt).trans HS.out.blk))
    have hcell1 : w1.cell? ⟨g, 0, none⟩ = some (.slice A l.length c) := (cell_of_row w1 g 0 _ 28 (0, 0) hb1).trans rfl
    have hfr1 : w1.frozen? ⟨g, 0, none⟩ = false := by simp [World.frozen?, hb1]
    clear hb1
    replace hrow := Lib.hid hrow
    replace hg := Lib.hid hg
    replace hat := Lib.hid hat
    refine hK.out _ _ ?_
    clear hK K
    refine norm_ (a' := ?_) ?_ ?_
    rotate_left
    · show Act.put _ (some 26) _ = _
      simp only [Act.put, List.setIfInBounds_toArray, List.set_cons_zero, List.set_cons_succ, i64_w, i32_w]
      rfl
    refine pure_ (i := 8) (N := some 27) (v := ?_) (a' := ?_) #[true, true, true, true, true, true, true, true, true, false, false] rfl rfl (by kernel_rfl) (fun _ _ _ h => h) (Or.inl ⟨by rfl, ?_⟩) ?_ ?_
    rotate_left
    · intro w'
      go_simp
      first | with_reducible rfl | rfl
    rotate_left
    · simp only [Act.put, List.setIfInBounds_toArray, List.set_cons_zero, List.set_cons_succ, i64_w, i32_w]
      rfl
    refine pure_ (i := 9) (N := some 28) (v := ?_) (a' := ?_) #[true, true, true, true, true, true, true, true, true, true, false] rfl rfl (by kernel_rfl) (fun _ _ _ h => h) (Or.inl ⟨by rfl, ?_⟩) ?_ ?_
    rotate_left
    · intro w'
      go_simp
      first | with_reducible rfl | rfl
    rotate_left
    · simp only [Act.put, List.setIfInBounds_toArray, List.set_cons_zero, List.set_cons_succ, i64_w, i32_w]
      rfl
    refine last_ (i := 10) (N := none) #[true, true, true, true, true, true, true, true, true, true, true] rfl rfl (by kernel_rfl) (by decide) (fun K hK => ?_)
    refine skip_ (w1 := ?_) (by rfl) rfl ?_ ?_
    rotate_left
    · go_simp
      rfl
    refine hK.out _ _ ?_
    clear hK K
    refine done_ (by kernel_rfl) ?_
    go_wp2
    go_ret
    refine ⟨rfl, left_of_append HS.out (by decide) (((Below.refl _ _).alloc (Nat.le_refl _) _).alloc (by simp) _).drew hg.out ?_ hat.out⟩
    rw [List.length_append, flat_append]
    have := hrow.out
    simpa using this
theorem rput_no (j : S30) (r : Nat) (w : World) (hn : j.f1 < 1 ∨ 100 < j.f1) : Calls Try.prog 12 #[.pointer (some ⟨r, 0, none⟩), .agg #[.int .i64 j.f0, .int .i64 j.f1, .int .i64 j.f2]] w fun e w' => e = .returned (.int .i64 1) ∧ Below w.heap.size w w' := by
  by_cases h1 : j.f1 < 1
  · have d1 : decide (j.f1 < 1) = true := decide_eq_true h1
    clear h1 hn
    go_enter Try.func12, Try.ntmps12
    go_wp2
    go_ret
    exact ⟨rfl, (Below.refl _ _).alloc (Nat.le_refl _) _⟩
  · have d1 : decide (j.f1 < 1) = false := decide_eq_false h1
    have d2 : decide (100 < j.f1) = true := decide_eq_true (by omega)
    clear h1 hn
    go_enter Try.func12, Try.ntmps12
    go_wp2
    go_ret
    exact ⟨rfl, (Below.refl _ _).alloc (Nat.le_refl _) _⟩
def RBRel (l : List S30) (vn vi : Value) : Prop := ∃ k : Nat, k ≤ l.length ∧ vi = .int .i64 k ∧ vn = .int .i64 (mxp (l.take k))
theorem rbest_any (g B : Nat) (v : Value) (l : List S30) (w : World) (hs : SetIs 28 36 w B g v l) (hl : l.length ≤ 10000) : Calls Try.prog 21 #[.pointer (some ⟨g, 0, none⟩)] w fun e w' => e = .returned (.int .i64 (mxp l)) ∧ w = w' := by
  obtain ⟨A, c, rfl, hlc⟩ := hs.slice
  have hc := hs.cell
  have HS := Lib.hid hs
  have HL := Lib.hid hl
  clear hs hlc hl
  go_enter Try.func21, Try.ntmps21
  go_wp2_with fail
  go_loop [3, 4] (fun vn vi => RBRel l vn vi) (fun _ vi => l.length - (intOf vi).toNat)
  case atStart => exact ⟨0, Nat.zero_le _, rfl, rfl⟩
  case round =>
    obtain ⟨k, hk, rfl, rfl⟩ := hrel
    by_cases hlk : k < l.length
    · obtain ⟨b, rfl, c0, c1, c2⟩ := HS.out.elem k hlk
      have htk := take_snoc l k hlk
      have hms := mxp_snoc (l.take k) (l.getD k z30)
      rw [← htk] at hms
      generalize l.getD k z30 = x at *
      generalize hM : mxp (l.take k) = M at *
      have hmx : mxp (l.take (k + 1)) = if M < x.f1 then x.f1 else M := by rw [hms]
      replace hmx := Lib.hid hmx
      clear hms htk
      replace hM := Lib.hid hM
      have hlk' : (k : Int) < (l.length : Int) := by omega
      have hkb : k < 10000 := by have := HL.out; omega
      go_wp2_with fail
      go_round
      case rel => exact ⟨k + 1, by omega, by go_num, by rw [hmx.out]⟩
      case measure => simp [intOf]; omega
    · have e0 : ¬ ((k : Int) < (l.length : Int)) := by omega
      obtain rfl : k = l.length := by omega
      rw [List.take_length]
      go_wp2_with fail
      go_ret
      exact ⟨rfl, rfl⟩
/-! ### plain: what the document's Take goes through -/
/-- how many of the first i have priority p -/
def cnt (l : List S30) (p : Int) (i : Nat) : Nat := (places (l.take i) p).length
theorem cnt_le (l : List S30) (p : Int) (i : Nat) : cnt l p i ≤ i := by
  have := placesFrom_len p (l.take i) 0
  simp at this
  unfold cnt places
  omega
theorem cnt_snoc (l : List S30) (p : Int) (i : Nat) (h : i < l.length) : cnt l p (i + 1) = cnt l p i + (if (l.getD i z30).f1 = p then 1 else 0) := by
  unfold cnt
  rw [take_snoc l i h, places_snoc, List.length_append]
  split <;> simp
theorem placesFrom_app2 (p : Int) : ∀ (a b : List S30) (n : Nat), placesFrom p n (a ++ b) = placesFrom p n a ++ placesFrom p (n + a.length) b := by
  intro a
  induction a with
  | nil => intro b n; simp [placesFrom]
  | cons x a ih =>
    intro b n
    rw [List.cons_append, placesFrom, placesFrom, ih b (n + 1), List.length_cons, show n + 1 + a.length = n + (a.length + 1) by omega]
    split <;> simp
theorem placesFrom_ge (p : Int) (l : List S30) (n : Nat) (x : Int) (hx : x ∈ placesFrom p n l) : (n : Int) ≤ x := by
  obtain ⟨i, rfl, _, _⟩ := placesFrom_mem p l n x hx
  omega
/-- the place of the pick stands ahead of i just if as many stand there -/
theorem pick_lt (l : List S30) (k : Nat) (P : Nat) (p : Int) (hk : k < (places l p).length) (hP : (places l p).getD k 0 = (P : Int)) (i : Nat) (hi : i ≤ l.length) : P < i ↔ k < cnt l p i := by
  have e : places l p = places (l.take i) p ++ placesFrom p i (l.drop i) := by
    have := placesFrom_app2 p (l.take i) (l.drop i) 0
    rw [List.take_append_drop, List.length_take, Nat.min_eq_left hi, Nat.zero_add] at this
    exact this
  have hc : cnt l p i = (places (l.take i) p).length := rfl
  rw [List.getD_eq_getElem?_getD, List.getElem?_eq_getElem hk] at hP
  simp only [Option.getD_some] at hP
  by_cases h : k < (places (l.take i) p).length
  · have hm : (P : Int) ∈ places (l.take i) p := by
      rw [← hP]
      have e2 : (places l p)[k] = (places (l.take i) p)[k] := by simp only [e]; exact List.getElem_append_left h
      rw [e2]
      exact List.getElem_mem h
    obtain ⟨q, h1, h2, _⟩ := placesFrom_mem p (l.take i) 0 _ hm
    rw [List.length_take] at h2
    constructor
    · intro _; omega
    · intro _; omega
  · have h' : (places (l.take i) p).length ≤ k := by omega
    have hkd : k - (places (l.take i) p).length < (placesFrom p i (l.drop i)).length := by rw [e, List.length_append] at hk; omega
    have hm : (P : Int) ∈ placesFrom p i (l.drop i) := by
      rw [← hP]
      have e2 : (places l p)[k] = (placesFrom p i (l.drop i))[k - (places (l.take i) p).length] := by simp only [e]; exact List.getElem_append_right h'
      rw [e2]
      exact List.getElem_mem hkd
    have := placesFrom_ge p _ i _ hm
    constructor
    · intro _; omega
    · intro _; omega
/-- .. and the pick's own place is met where as many stand ahead -/
theorem pick_at (l : List S30) (k : Nat) (P : Nat) (p : Int) (hk : k < (places l p).length) (hP : (places l p).getD k 0 = (P : Int)) (i : Nat) (hi : i < l.length) : (i = P ↔ (l.getD i z30).f1 = p ∧ cnt l p i = k) := by
  have h1 := pick_lt l k P p hk hP i (by omega)
  have h2 := pick_lt l k P p hk hP (i + 1) (by omega)
  have h3 := cnt_snoc l p i hi
  split at h3
  · rename_i hx
    constructor
    · intro e; exact ⟨hx, by omega⟩
    · rintro ⟨_, e⟩; omega
  · rename_i hx
    constructor
    · intro e; omega
    · rintro ⟨e, _⟩; exact absurd e hx
theorem erase_snoc_ne (l : List S30) (P i : Nat) (hi : i < l.length) (hne : i ≠ P) : (l.take (i + 1)).eraseIdx P = (l.take i).eraseIdx P ++ [l.getD i z30] := by
  rw [take_snoc l i hi]
  have hlen : (l.take i).length = i := by rw [List.length_take]; omega
  by_cases h : P < i
  · exact List.eraseIdx_append_of_lt_length (by omega) _
  · rw [List.eraseIdx_of_length_le (by rw [List.length_append, hlen]; simp; omega), List.eraseIdx_of_length_le (by omega)]
theorem erase_snoc_eq (l : List S30) (P : Nat) (hi : P < l.length) : (l.take (P + 1)).eraseIdx P = (l.take P).eraseIdx P := by
  rw [take_snoc l P hi]
  have hlen : (l.take P).length = P := by rw [List.length_take]; omega
  rw [List.eraseIdx_append_of_length_le (by omega), hlen, Nat.sub_self, List.eraseIdx_of_length_le (Nat.le_of_eq hlen)]
  simp
theorem erase_len_le (l : List S30) (P i : Nat) : ((l.take i).eraseIdx P).length ≤ i := by
  have := (List.eraseIdx_sublist (l.take i) P).length_le
  rw [List.length_take] at this
  omega
/-! ### the walk of the document's Take -/
theorem LRow.low {w : World} {B B' e size n : Nat} {v : Value} {xs : List Value} (h : LRow w B e size v n xs) (hb : B' ≤ B) : LRow w B' e size v n xs := by
  obtain ⟨h1, h2⟩ := h
  refine ⟨h1, ?_⟩
  rcases h2 with h2 | ⟨g, cap, cur, h3, h4, h5⟩
  · exact .inl h2
  · exact .inr ⟨g, cap, cur, h3, Nat.le_trans hb h4, h5⟩
/-- the world in the second loop: the result's block, got's, the row that is laid -/
structure TkW (w W : World) (vo : Value) (out : List S30) (x : S30) : Prop where
  below : Below w.heap.size w W
  res : W.heap[w.heap.size]? = some (.cells #[.int .i64 0, .int .i64 0, .int .i64 0] 36 (0, 0))
  got : W.heap[w.heap.size + 1]? = some (.cells #[.int .i64 x.f0, .int .i64 x.f1, .int .i64 x.f2] 36 (0, 0))
  row : LRow W (w.heap.size + 2) 36 3 vo out.length (out.flatMap enc3)
theorem TkW.start (w : World) : TkW w ((w.alloc (.cells #[.int .i64 0, .int .i64 0, .int .i64 0] 36)).alloc (.cells #[.int .i64 0, .int .i64 0, .int .i64 0] 36)) (.slice none 0 0) [] z30 :=
  ⟨((Below.refl _ _).alloc (Nat.le_refl _) _).alloc (by simp) _, (Below.heap_alloc _ _ _ (by simp)).trans (heap_alloc_new w _), by have := heap_alloc_new (w.alloc (.cells #[.int .i64 0, .int .i64 0, .int .i64 0] 36)) (.cells #[.int .i64 0, .int .i64 0, .int .i64 0] 36); simpa [z30] using this, ⟨rfl, .inl ⟨rfl, rfl⟩⟩⟩
theorem TkW.app {w W W1 w1 : World} {vo v1 : Value} {out : List S30} {x j : S30} (h : TkW w W vo out x) (hW : Below W.heap.size W W1) (hg : W1.grownBy w1 vo.ownBlock) (hr : LRow w1 (w.heap.size + 2) 36 3 v1 (out.length + 1) (out.flatMap enc3 ++ enc3 j)) : TkW w w1 v1 (out ++ [j]) x := by
  have hl2 : w.heap.size + 1 < W.heap.size := (Array.getElem?_eq_some_iff.1 h.got).1
  have hne : ∀ k, k < w.heap.size + 2 → some k ≠ vo.ownBlock := fun k hk e => by have := (h.row.lt k e.symm).2.1; omega
  have hb : ∀ k, k < w.heap.size + 2 → w1.heap[k]? = W.heap[k]? := fun k hk => (hg.block k (by have := hW.size; omega) (hne k hk)).trans (hW.block k (by omega))
  refine ⟨⟨hg.os.trans (hW.os.trans h.below.os), hg.tape.trans (hW.tape.trans h.below.tape), hg.output.trans (hW.output.trans h.below.output), Nat.le_trans h.below.size (Nat.le_trans hW.size hg.size), fun k hk => (hb k (by omega)).trans (h.below.block k hk)⟩, (hb _ (by omega)).trans h.res, (hb _ (by omega)).trans h.got, ?_⟩
  rw [List.length_append, flat_append]
  simpa using hr
theorem TkW.put {w W : World} {vo : Value} {out : List S30} {x : S30} (h : TkW w W vo out x) (a b c : Int) : TkW w (((W.setCell ⟨w.heap.size + 1, 0, none⟩ (.int .i64 a)).setCell ⟨w.heap.size + 1, 1, none⟩ (.int .i64 b)).setCell ⟨w.heap.size + 1, 2, none⟩ (.int .i64 c)) vo out ⟨a, b, c⟩ := by
  have far : ∀ k, k ≠ w.heap.size + 1 → (((W.setCell ⟨w.heap.size + 1, 0, none⟩ (.int .i64 a)).setCell ⟨w.heap.size + 1, 1, none⟩ (.int .i64 b)).setCell ⟨w.heap.size + 1, 2, none⟩ (.int .i64 c)).heap[k]? = W.heap[k]? := fun k hk =>
    (Below.heap_setCell _ ⟨w.heap.size + 1, 2, none⟩ _ k hk).trans ((Below.heap_setCell _ ⟨w.heap.size + 1, 1, none⟩ _ k hk).trans (Below.heap_setCell _ ⟨w.heap.size + 1, 0, none⟩ _ k hk))
  exact ⟨((h.below.setCell (p := ⟨w.heap.size + 1, 0, none⟩) (Nat.le_succ _) _).setCell (p := ⟨w.heap.size + 1, 1, none⟩) (Nat.le_succ _) _).setCell (p := ⟨w.heap.size + 1, 2, none⟩) (Nat.le_succ _) _, (far _ (by omega)).trans h.res, (blk_set (blk_set (blk_set h.got 0 _) 1 _) 2 _).trans rfl, h.row.move (fun k hk => far k (by have := (h.row.lt k hk).2.1; omega))⟩
theorem TkW.gotAt {w W : World} {vo : Value} {out : List S30} {x : S30} (h : TkW w W vo out x) : W.cell? ⟨w.heap.size + 1, 0, none⟩ = some (.int .i64 x.f0) ∧ W.cell? ⟨w.heap.size + 1, 1, none⟩ = some (.int .i64 x.f1) ∧ W.cell? ⟨w.heap.size + 1, 2, none⟩ = some (.int .i64 x.f2) ∧ (∀ o, W.frozen? ⟨w.heap.size + 1, o, none⟩ = false) :=
  ⟨(blk_cell h.got 0).trans rfl, (blk_cell h.got 1).trans rfl, (blk_cell h.got 2).trans rfl, fun o => blk_frozen h.got o⟩
/-- what a call leaves that changes the document's set -/
def LeftR (w w' : World) (B g : Nat) (v : Value) (l' : List S30) : Prop := ∃ v', SetIs 28 36 w' B g v' l' ∧ Only g v.ownBlock w w'
/-- the end: the row is laid into the set, what was got into the result -/
theorem TkW.fin {w W : World} {B g : Nat} {v vo : Value} {l out : List S30} {x : S30} (h : TkW w W vo out x) (hs : SetIs 28 36 w B g v l) (hB : B ≤ w.heap.size) (a b c : Value) :
    LeftR w ((((W.setCell ⟨g, 0, none⟩ vo).setCell ⟨w.heap.size, 0, none⟩ a).setCell ⟨w.heap.size, 1, none⟩ b).setCell ⟨w.heap.size, 2, none⟩ c) B g v out := by
  have hg := hs.lt
  have far : ∀ k, k ≠ w.heap.size → ((((W.setCell ⟨g, 0, none⟩ vo).setCell ⟨w.heap.size, 0, none⟩ a).setCell ⟨w.heap.size, 1, none⟩ b).setCell ⟨w.heap.size, 2, none⟩ c).heap[k]? = (W.setCell ⟨g, 0, none⟩ vo).heap[k]? := fun k hk =>
    (Below.heap_setCell _ ⟨w.heap.size, 2, none⟩ c k hk).trans ((Below.heap_setCell _ ⟨w.heap.size, 1, none⟩ b k hk).trans (Below.heap_setCell _ ⟨w.heap.size, 0, none⟩ a k hk))
  have hb1 : W.heap[g]? = some (.cells #[v] 28 (0, 0)) := (h.below.block g hg).trans hs.blk
  have h0 := (Only.of_below h.below g v.ownBlock).setCell 0 vo
  refine ⟨vo, ⟨hs.lo, (far g (by omega)).trans ((blk_set hb1 0 vo).trans rfl), LRow.low (h.row.move (fun k hk => (far k (by have := (h.row.lt k hk).2.1; omega)).trans (Below.heap_setCell W _ _ k (by have := (h.row.lt k hk).2.1; show k ≠ g; omega)))) (by omega)⟩,
    ⟨h0.os, h0.tape, h0.output, by have := h0.size; simpa [World.setCell] using this, fun k hk hkg hkr => (far k (by omega)).trans (h0.block k hk hkg hkr)⟩⟩
theorem rtakeNo (g B : Nat) (v : Value) (l : List S30) (a p : Int) (w : World) (hs : SetIs 28 36 w B g v l) (hl : l.length ≤ 10000) (h : mxp l = 0 ∨ mxp l ≤ a) :
    Calls Try.prog 15 #[.pointer (some ⟨g, 0, none⟩), .int .i64 a, .int .i64 p] w fun e w' => e = .returned (.tuple #[.agg #[.int .i64 0, .int .i64 0, .int .i64 0], .bool false]) ∧ Below w.heap.size w w' := by
  have HS := Lib.hid hs
  clear hs
  have HB := Lib.hid (rbest_any g B v l (w.alloc (.cells #[.int .i64 0, .int .i64 0, .int .i64 0] 36)) (HS.out.step ((Below.refl _ _).alloc (Nat.le_refl _) _)) hl)
  clear hl
  have kb := Lib.hid (heap_alloc_new w (.cells #[.int .i64 0, .int .i64 0, .int .i64 0] 36))
  have hb2 : Hid (Below w.heap.size w (w.alloc (.cells #[.int .i64 0, .int .i64 0, .int .i64 0] 36))) := Lib.hid ((Below.refl _ _).alloc (Nat.le_refl _) _)
  by_cases h0 : mxp l ≤ a
  · have e1 : decide (mxp l ≤ a) = true := decide_eq_true h0
    clear h h0
    go_enter Try.func15, Try.ntmps15
    go_wp2_with fail
    refine HB.out.mono ?_
    rintro e w1 ⟨rfl, rfl⟩
    go_wp2_with fail
    refine bodyPost_ret (v := .tuple #[.agg #[.int .i64 0, .int .i64 0, .int .i64 0], .bool false]) (results_ct Try.results15 _ _ w.heap.size 36 #[.int .i64 0, .int .i64 0, .int .i64 0] (0, 0) _ rfl kb.out Try.underlying36 rfl (by kernel_rfl)) rfl ⟨rfl, hb2.out⟩
  · have e1 : decide (mxp l ≤ a) = false := decide_eq_false h0
    have e2 : (mxp l == 0) = true := beq_iff_eq.mpr (by omega)
    clear h h0
    go_enter Try.func15, Try.ntmps15
    go_wp2_with fail
    refine HB.out.mono ?_
    rintro e w1 ⟨rfl, rfl⟩
    go_wp2_with fail
    refine bodyPost_ret (v := .tuple #[.agg #[.int .i64 0, .int .i64 0, .int .i64 0], .bool false]) (results_ct Try.results15 _ _ w.heap.size 36 #[.int .i64 0, .int .i64 0, .int .i64 0] (0, 0) _ rfl kb.out Try.underlying36 rfl (by kernel_rfl)) rfl ⟨rfl, hb2.out⟩
def RT1 (l : List S30) (p : Int) (vm vi : Value) : Prop := ∃ k : Nat, k ≤ l.length ∧ vi = .int .i64 k ∧ vm = .int .i64 (cnt l p k)
def RT2 (w : World) (l : List S30) (p : Int) (k0 P : Nat) (vk vo vi : Value) (wr : World) : Prop := ∃ i : Nat, i ≤ l.length ∧ vi = .int .i64 i ∧ vk = .int .i64 ((k0 : Int) - (cnt l p i : Int)) ∧ TkW w wr vo ((l.take i).eraseIdx P) (if P < i then l.getD P z30 else z30)
def RTakePost (w : World) (B g : Nat) (v : Value) (l : List S30) (i : Nat) (e : Ending) (w' : World) : Prop :=
  e = .returned (.tuple #[.agg #[.int .i64 (l.getD i z30).f0, .int .i64 (l.getD i z30).f1, .int .i64 (l.getD i z30).f2], .bool true]) ∧ LeftR w w' B g v (l.eraseIdx i)
set_option maxHeartbeats 4000000 in
theorem rtakeYes (g B : Nat) (v : Value) (l : List S30) (a p : Int) (w : World) (hs : SetIs 28 36 w B g v l) (hB : B ≤ w.heap.size) (hl : l.length ≤ 10000) (h0 : 0 < (places l (mxp l)).length) (hm0 : 0 < mxp l) (ha : a < mxp l) :
    Calls Try.prog 15 #[.pointer (some ⟨g, 0, none⟩), .int .i64 a, .int .i64 p] w (RTakePost w B g v l (pickPlace l p)) := by
  have HS := Lib.hid hs
  have HL := Lib.hid hl
  have HB0 := Lib.hid hB
  clear hs hB
  have HB := Lib.hid (rbest_any g B v l (w.alloc (.cells #[.int .i64 0, .int .i64 0, .int .i64 0] 36)) (HS.out.step ((Below.refl _ _).alloc (Nat.le_refl _) _)) hl)
  obtain ⟨q1, q2, q3⟩ := pick_spec l p h0
  have hm := tmod_cases p ((places l (mxp l)).length : Int) (by omega)
  have hn1 := Int.emod_nonneg p (b := ((places l (mxp l)).length : Int)) (by omega)
  have hn2 := Int.emod_lt_of_pos p (b := ((places l (mxp l)).length : Int)) (by omega)
  have hnl : (places l (mxp l)).length ≤ 10000 := Nat.le_trans (placesFrom_len _ l 0) hl
  have e1 : decide (mxp l ≤ a) = false := decide_eq_false (by omega)
  have e2 : (mxp l == 0) = false := beq_eq_false_iff_ne.mpr (by omega)
  obtain ⟨kk, hkk⟩ : ∃ kk : Nat, p % ((places l (mxp l)).length : Int) = (kk : Int) := ⟨_, (Int.toNat_of_nonneg hn1).symm⟩
  rw [hkk, Int.toNat_natCast] at q1
  rw [hkk] at hm hn1 hn2
  have hkl : kk < (places l (mxp l)).length := by omega
  have hat := Lib.hid (fun i hi => pick_at l kk (pickPlace l p) (mxp l) hkl q1 i hi)
  have hcl : cnt l (mxp l) l.length = (places l (mxp l)).length := by unfold cnt; rw [List.take_length]
  have hRn : 0 < cnt l (mxp l) l.length := by rw [hcl]; exact h0
  rw [← hcl] at hm hnl hn2 hkl
  replace hcl := Lib.hid hcl
  generalize hbst : mxp l = b at *
  generalize hPP : pickPlace l p = P at *
  replace hbst := Lib.hid hbst
  replace hPP := Lib.hid hPP
  replace q1 := Lib.hid q1
  replace q3 := Lib.hid q3
  replace ha := Lib.hid ha
  replace hm0 := Lib.hid hm0
  replace h0 := Lib.hid h0
  replace hm := Lib.hid hm
  clear hkk hn1 hn2 
  have hc := HS.out.step ((Below.refl w.heap.size w).alloc (Nat.le_refl _) (.cells #[.int .i64 0, .int .i64 0, .int .i64 0] 36))
  obtain ⟨A, c, rfl, hlc⟩ := hc.slice
  have HS1 := Lib.hid hc
  replace hc := hc.cell
  go_enter Try.func15, Try.ntmps15
  go_wp2_with fail
  refine HB.out.mono ?_
  rintro e w1 ⟨rfl, rfl⟩
  clear HB
  go_wp2_with fail
  go_loop [9, 10] (fun vm vi => RT1 l b vm vi) (fun _ vi => l.length - (intOf vi).toNat)
  case atStart => exact ⟨0, Nat.zero_le _, rfl, rfl⟩
  case round =>
    obtain ⟨k, hk, rfl, rfl⟩ := hrel
    by_cases hlk : k < l.length
    · obtain ⟨ba, rfl, c0, c1, c2⟩ := HS1.out.elem k hlk
      have hcs := cnt_snoc l b k hlk
      have hcb := cnt_le l b k
      generalize l.getD k z30 = x at *
      generalize hM : cnt l b k = M at *
      replace hM := Lib.hid hM
      have hlk' : (k : Int) < (l.length : Int) := by omega
      have hkb : k < 10000 := by have := HL.out; omega
      have hMb : M < 10000 := by omega
      rcases Decidable.em (x.f1 = b) with hxb | hxb
      · have t1 : (x.f1 == b) = true := beq_iff_eq.mpr hxb
        rw [if_pos hxb] at hcs
        replace hcs := Lib.hid hcs
        replace hxb := Lib.hid hxb
        go_wp2_with fail
        go_round
        case rel => exact ⟨k + 1, by omega, by go_num, by rw [hcs.out]; go_num⟩
        case measure => simp [intOf]; omega
      · have t1 : (x.f1 == b) = false := beq_eq_false_iff_ne.mpr hxb
        rw [if_neg hxb] at hcs
        replace hcs := Lib.hid hcs
        replace hxb := Lib.hid hxb
        go_wp2_with fail
        go_round
        case rel => exact ⟨k + 1, by omega, by go_num, by rw [hcs.out]; rfl⟩
        case measure => simp [intOf]; omega
    · have e0 : ¬ ((k : Int) < (l.length : Int)) := by omega
      obtain rfl : k = l.length := by omega
      generalize hR : cnt l b l.length = R at *
      replace hR := Lib.hid hR
      have hz : ((R : Int) == 0) = false := by rw [beq_eq_false_iff_ne]; omega
      rcases hm.out with ⟨m0, m1⟩ | ⟨m0, m1⟩
      · have e3 : decide (p.tmod (R : Int) < 0) = false := decide_eq_false (by omega)
        replace m0 := Lib.hid m0
        clear hm
        go_wp2_with fail
        go_loopw [11, 12, 14] (fun vk vo vi wr => RT2 w l b kk P vk vo vi wr) (fun _ _ vi _ => l.length - (intOf vi).toNat)
        case atStart => exact ⟨0, Nat.zero_le _, rfl, by simp [cnt, places, placesFrom], by rw [if_neg (by omega)]; simpa using TkW.start w⟩
        case round =>
          obtain ⟨i, hi, rfl, rfl, hT⟩ := hrel
          have hgl := HS.out.lt
          have hcg := (hT.below.cell (p := ⟨g, 0, none⟩) hgl).trans HS.out.cell
          obtain ⟨A1, c1', rfl, _⟩ := LRow.slice hT.row
          replace hT := Lib.hid hT
          by_cases hli : i < l.length
          · obtain ⟨ba, rfl, c0, c1, c2⟩ := HS.out.elem i hli
            have hbl : ba < w.heap.size := World.block_lt_of_cell? w _ c0
            have d0 := (hT.out.below.cell (p := ⟨ba, i * 3, none⟩) hbl).trans c0
            have d1 := (hT.out.below.cell (p := ⟨ba, i * 3 + 1, none⟩) hbl).trans c1
            have d2 := (hT.out.below.cell (p := ⟨ba, i * 3 + 2, none⟩) hbl).trans c2
            clear c0 c1 c2 hc
            have hcs := cnt_snoc l b i hli
            have hcb := cnt_le l b i
            have hati := hat.out i hli
            have hne := erase_snoc_ne l P i hli
            have hgt : i ≠ P → (if P < i then l.getD P z30 else z30) = (if P < i + 1 then l.getD P z30 else z30) := fun h => by
              by_cases h5 : P < i
              · rw [if_pos h5, if_pos (by omega)]
              · rw [if_neg h5, if_neg (by omega)]
            have hPx : i = P → (if P < i + 1 then l.getD P z30 else z30) = l.getD i z30 := fun h => by subst h; rw [if_pos (by omega)]
            have hPo : i = P → (l.take (i + 1)).eraseIdx P = (l.take i).eraseIdx P := fun h => by subst h; exact erase_snoc_eq l i hli
            generalize l.getD i z30 = x at *
            generalize hM : cnt l b i = M at *
            replace hM := Lib.hid hM
            have hli' : (i : Int) < (l.length : Int) := by omega
            have hib : i < 10000 := by have := HL.out; omega
            have hMb : M < 10000 := by omega
            have hkkb : kk < 10001 := by omega
            rcases Decidable.em (x.f1 = b) with hxb | hxb
            · have t1 : (x.f1 == b) = true := beq_iff_eq.mpr hxb
              rw [if_pos hxb] at hcs
              replace hcs := Lib.hid hcs
              by_cases hP : i = P
              · have hMk := (hati.1 hP).2
                have hx2 := hPx hP
                have ho2 := hPo hP
                subst hMk
                have ekk : (M : Int) - (M : Int) = 0 := by omega
                obtain ⟨g0, g1, g2, g3⟩ := hT.out.gotAt
                have hT2 := hT.out.put x.f0 x.f1 x.f2
                replace hT2 := Lib.hid hT2
                replace hx2 := Lib.hid hx2
                replace ho2 := Lib.hid ho2
                clear hati hne hgt hPx hPo hP hxb
                rw [ekk]
                replace ekk := Lib.hid ekk
                go_wp2_with fail
                go_roundw
                case rel => exact ⟨i + 1, by omega, by go_num, by rw [hcs.out]; go_num, by rw [hx2.out, ho2.out]; exact hT2.out⟩
                case measure => simp [intOf]; omega
              · have hMk : M ≠ kk := fun e => hP (hati.2 ⟨hxb, e⟩)
                have t2 : (((kk : Int) - (M : Int) - 1) == -1) = false := beq_eq_false_iff_ne.mpr (by omega)
                have hout := hne hP
                have hgt := hgt hP
                clear hati hne hPx hPo hP hxb hMk
                replace hgt := Lib.hid hgt
                go_wp2_with (first | (at_builtin; refine wpList_append_loose _ (w.heap.size + 2) rfl (.tmp 84) (.tmp 92) 26 36 _ 3 24 rfl Try.underlying26 info36 rfl (by decide) (by decide) (.slice A1 ((l.take i).eraseIdx P).length c1') ((l.take i).eraseIdx P).length (((l.take i).eraseIdx P).flatMap enc3) (enc3 x) (some ⟨_, 0, none⟩) 1 1 rfl rfl rfl (fun u hu => flat_one [x] u (by simpa using hu)) ?row ?src ?low ?len ?go))
                case row => exact hT.out.row.move (fun k hk => Below.heap_alloc _ _ k (hT.out.row.lt k hk).1)
                case src => exact .inr ⟨_, rfl, by have h := World.news_of_block (cs := #[.int .i64 x.f0, .int .i64 x.f1, .int .i64 x.f2]) (t := 36) (fr := (0, 0)) (heap_alloc_new wr (.cells #[.int .i64 x.f0, .int .i64 x.f1, .int .i64 x.f2] 36)); simpa [enc3] using h⟩
                case low => have := (Array.getElem?_eq_some_iff.1 hT.out.got).1; simp; omega
                case len => have := erase_len_le l P i; have := HL.out; omega
                case go =>
                  intro v1 w1 hrow hg hr1
                  have hT2 := hT.out.app ((Below.refl _ _).alloc (Nat.le_refl _) _) hg hrow
                  rw [← hout] at hT2
                  replace hT2 := Lib.hid hT2
                  obtain ⟨A2, c2', rfl, _⟩ := hrow.slice
                  clear hrow hg hr1
                  go_wp2_with fail
                  go_roundw
                  case rel => exact ⟨i + 1, by omega, by go_num, by rw [hcs.out]; go_num, by rw [← hgt.out]; exact hT2.out⟩
                  case measure => simp [intOf]; omega
            · have t1 : (x.f1 == b) = false := beq_eq_false_iff_ne.mpr hxb
              rw [if_neg hxb] at hcs
              replace hcs := Lib.hid hcs
              have hP : i ≠ P := fun e => hxb (hati.1 e).1
              have hout := hne hP
              have hgt := hgt hP
              clear hati hne hPx hPo hP hxb
              replace hgt := Lib.hid hgt
              go_wp2_with (first | (at_builtin; refine wpList_append_loose _ (w.heap.size + 2) rfl (.tmp 84) (.tmp 92) 26 36 _ 3 24 rfl Try.underlying26 info36 rfl (by decide) (by decide) (.slice A1 ((l.take i).eraseIdx P).length c1') ((l.take i).eraseIdx P).length (((l.take i).eraseIdx P).flatMap enc3) (enc3 x) (some ⟨_, 0, none⟩) 1 1 rfl rfl rfl (fun u hu => flat_one [x] u (by simpa using hu)) ?row ?src ?low ?len ?go))
              case row => exact hT.out.row.move (fun k hk => Below.heap_alloc _ _ k (hT.out.row.lt k hk).1)
              case src => exact .inr ⟨_, rfl, by have h := World.news_of_block (cs := #[.int .i64 x.f0, .int .i64 x.f1, .int .i64 x.f2]) (t := 36) (fr := (0, 0)) (heap_alloc_new wr (.cells #[.int .i64 x.f0, .int .i64 x.f1, .int .i64 x.f2] 36)); simpa [enc3] using h⟩
              case low => have := (Array.getElem?_eq_some_iff.1 hT.out.got).1; simp; omega
              case len => have := erase_len_le l P i; have := HL.out; omega
              case go =>
                intro v1 w1 hrow hg hr1
                have hT2 := hT.out.app ((Below.refl _ _).alloc (Nat.le_refl _) _) hg hrow
                rw [← hout] at hT2
                replace hT2 := Lib.hid hT2
                obtain ⟨A2, c2', rfl, _⟩ := hrow.slice
                clear hrow hg hr1
                go_wp2_with fail
                go_roundw
                case rel => exact ⟨i + 1, by omega, by go_num, by rw [hcs.out]; rfl, by rw [← hgt.out]; exact hT2.out⟩
                case measure => simp [intOf]; omega
          · have e0 : ¬ ((i : Int) < (l.length : Int)) := by omega
            obtain rfl : i = l.length := by omega
            have hT2 := hT.out
            rw [List.take_length, if_pos q2] at hT2
            clear hT
            have hfin := hT2.fin HS.out HB0.out (.int .i64 (l.getD P z30).f0) (.int .i64 (l.getD P z30).f1) (.int .i64 (l.getD P z30).f2)
            rw [List.take_length]
            generalize hle : l.eraseIdx P = le at *
            replace hle := Lib.hid hle
            have hr := (Below.heap_setCell wr ⟨g, 0, none⟩ (.slice A1 le.length c1') w.heap.size (by show w.heap.size ≠ g; omega)).trans hT2.res
            have hg2 := (Below.heap_setCell wr ⟨g, 0, none⟩ (.slice A1 le.length c1') (w.heap.size + 1) (by show w.heap.size + 1 ≠ g; omega)).trans hT2.got
            have hfr : wr.frozen? ⟨g, 0, none⟩ = false := blk_frozen ((hT2.below.block g hgl).trans HS.out.blk) 0
            have s0 : _ = some (Value.int .i64 (l.getD P z30).f0) := (blk_cell hg2 0).trans rfl
            have s1 : _ = some (Value.int .i64 (l.getD P z30).f1) := (blk_cell hg2 1).trans rfl
            have s2 : _ = some (Value.int .i64 (l.getD P z30).f2) := (blk_cell hg2 2).trans rfl
            have r0 : _ = some (Value.int .i64 0) := (blk_cell hr 0).trans rfl
            have r1 : _ = some (Value.int .i64 0) := (blk_cell hr 1).trans rfl
            have r2 : _ = some (Value.int .i64 0) := (blk_cell hr 2).trans rfl
            have rf : ∀ o, (wr.setCell ⟨g, 0, none⟩ (.slice A1 le.length c1')).frozen? ⟨w.heap.size, o, none⟩ = false := fun o => blk_frozen hr o
            generalize hgx : l.getD P z30 = x at *
            clear hc hlc
            replace hgx := Lib.hid hgx
            replace hr := Lib.hid hr
            replace hg2 := Lib.hid hg2
            replace hT2 := Lib.hid hT2
            replace hfin := Lib.hid hfin
            go_wp2_with fail
            refine bodyPost_ret (v := .tuple #[.agg #[.int .i64 x.f0, .int .i64 x.f1, .int .i64 x.f2], .bool true]) (results_ct Try.results15 _ _ w.heap.size 36 #[.int .i64 x.f0, .int .i64 x.f1, .int .i64 x.f2] (0, 0) _ rfl ((blk_set (blk_set (blk_set hr.out 0 _) 1 _) 2 _).trans rfl) Try.underlying36 rfl (by kernel_rfl)) rfl (And.intro ?_ ?_)
            · rw [hgx.out]
            · rw [hle.out]; exact hfin.out
      · have e3 : decide (p.tmod (R : Int) < 0) = true := decide_eq_true m0
        have m2 : wrap64 (p.tmod (R : Int) + (R : Int)) = (kk : Int) := by rw [m1]; exact wrapIn (by omega)
        replace m1 := Lib.hid m1
        clear hm m0
        go_wp2_with fail
        go_loopw [11, 12, 14] (fun vk vo vi wr => RT2 w l b kk P vk vo vi wr) (fun _ _ vi _ => l.length - (intOf vi).toNat)
        case atStart => exact ⟨0, Nat.zero_le _, rfl, by simp [cnt, places, placesFrom], by rw [if_neg (by omega)]; simpa using TkW.start w⟩
        case round =>
          obtain ⟨i, hi, rfl, rfl, hT⟩ := hrel
          have hgl := HS.out.lt
          have hcg := (hT.below.cell (p := ⟨g, 0, none⟩) hgl).trans HS.out.cell
          obtain ⟨A1, c1', rfl, _⟩ := LRow.slice hT.row
          replace hT := Lib.hid hT
          by_cases hli : i < l.length
          · obtain ⟨ba, rfl, c0, c1, c2⟩ := HS.out.elem i hli
            have hbl : ba < w.heap.size := World.block_lt_of_cell? w _ c0
            have d0 := (hT.out.below.cell (p := ⟨ba, i * 3, none⟩) hbl).trans c0
            have d1 := (hT.out.below.cell (p := ⟨ba, i * 3 + 1, none⟩) hbl).trans c1
            have d2 := (hT.out.below.cell (p := ⟨ba, i * 3 + 2, none⟩) hbl).trans c2
            clear c0 c1 c2 hc
            have hcs := cnt_snoc l b i hli
            have hcb := cnt_le l b i
            have hati := hat.out i hli
            have hne := erase_snoc_ne l P i hli
            have hgt : i ≠ P → (if P < i then l.getD P z30 else z30) = (if P < i + 1 then l.getD P z30 else z30) := fun h => by
              by_cases h5 : P < i
              · rw [if_pos h5, if_pos (by omega)]
              · rw [if_neg h5, if_neg (by omega)]
            have hPx : i = P → (if P < i + 1 then l.getD P z30 else z30) = l.getD i z30 := fun h => by subst h; rw [if_pos (by omega)]
            have hPo : i = P → (l.take (i + 1)).eraseIdx P = (l.take i).eraseIdx P := fun h => by subst h; exact erase_snoc_eq l i hli
            generalize l.getD i z30 = x at *
            generalize hM : cnt l b i = M at *
            replace hM := Lib.hid hM
            have hli' : (i : Int) < (l.length : Int) := by omega
            have hib : i < 10000 := by have := HL.out; omega
            have hMb : M < 10000 := by omega
            have hkkb : kk < 10001 := by omega
            rcases Decidable.em (x.f1 = b) with hxb | hxb
            · have t1 : (x.f1 == b) = true := beq_iff_eq.mpr hxb
              rw [if_pos hxb] at hcs
              replace hcs := Lib.hid hcs
              by_cases hP : i = P
              · have hMk := (hati.1 hP).2
                have hx2 := hPx hP
                have ho2 := hPo hP
                subst hMk
                have ekk : (M : Int) - (M : Int) = 0 := by omega
                obtain ⟨g0, g1, g2, g3⟩ := hT.out.gotAt
                have hT2 := hT.out.put x.f0 x.f1 x.f2
                replace hT2 := Lib.hid hT2
                replace hx2 := Lib.hid hx2
                replace ho2 := Lib.hid ho2
                clear hati hne hgt hPx hPo hP hxb
                rw [ekk]
                replace ekk := Lib.hid ekk
                go_wp2_with fail
                go_roundw
                case rel => exact ⟨i + 1, by omega, by go_num, by rw [hcs.out]; go_num, by rw [hx2.out, ho2.out]; exact hT2.out⟩
                case measure => simp [intOf]; omega
              · have hMk : M ≠ kk := fun e => hP (hati.2 ⟨hxb, e⟩)
                have t2 : (((kk : Int) - (M : Int) - 1) == -1) = false := beq_eq_false_iff_ne.mpr (by omega)
                have hout := hne hP
                have hgt := hgt hP
                clear hati hne hPx hPo hP hxb hMk
                replace hgt := Lib.hid hgt
                go_wp2_with (first | (at_builtin; refine wpList_append_loose _ (w.heap.size + 2) rfl (.tmp 84) (.tmp 92) 26 36 _ 3 24 rfl Try.underlying26 info36 rfl (by decide) (by decide) (.slice A1 ((l.take i).eraseIdx P).length c1') ((l.take i).eraseIdx P).length (((l.take i).eraseIdx P).flatMap enc3) (enc3 x) (some ⟨_, 0, none⟩) 1 1 rfl rfl rfl (fun u hu => flat_one [x] u (by simpa using hu)) ?row ?src ?low ?len ?go))
                case row => exact hT.out.row.move (fun k hk => Below.heap_alloc _ _ k (hT.out.row.lt k hk).1)
                case src => exact .inr ⟨_, rfl, by have h := World.news_of_block (cs := #[.int .i64 x.f0, .int .i64 x.f1, .int .i64 x.f2]) (t := 36) (fr := (0, 0)) (heap_alloc_new wr (.cells #[.int .i64 x.f0, .int .i64 x.f1, .int .i64 x.f2] 36)); simpa [enc3] using h⟩
                case low => have := (Array.getElem?_eq_some_iff.1 hT.out.got).1; simp; omega
                case len => have := erase_len_le l P i; have := HL.out; omega
                case go =>
                  intro v1 w1 hrow hg hr1
                  have hT2 := hT.out.app ((Below.refl _ _).alloc (Nat.le_refl _) _) hg hrow
                  rw [← hout] at hT2
                  replace hT2 := Lib.hid hT2
                  obtain ⟨A2, c2', rfl, _⟩ := hrow.slice
                  clear hrow hg hr1
                  go_wp2_with fail
                  go_roundw
                  case rel => exact ⟨i + 1, by omega, by go_num, by rw [hcs.out]; go_num, by rw [← hgt.out]; exact hT2.out⟩
                  case measure => simp [intOf]; omega
            · have t1 : (x.f1 == b) = false := beq_eq_false_iff_ne.mpr hxb
              rw [if_neg hxb] at hcs
              replace hcs := Lib.hid hcs
              have hP : i ≠ P := fun e => hxb (hati.1 e).1
              have hout := hne hP
              have hgt := hgt hP
              clear hati hne hPx hPo hP hxb
              replace hgt := Lib.hid hgt
              go_wp2_with (first | (at_builtin; refine wpList_append_loose _ (w.heap.size + 2) rfl (.tmp 84) (.tmp 92) 26 36 _ 3 24 rfl Try.underlying26 info36 rfl (by decide) (by decide) (.slice A1 ((l.take i).eraseIdx P).length c1') ((l.take i).eraseIdx P).length (((l.take i).eraseIdx P).flatMap enc3) (enc3 x) (some ⟨_, 0, none⟩) 1 1 rfl rfl rfl (fun u hu => flat_one [x] u (by simpa using hu)) ?row ?src ?low ?len ?go))
              case row => exact hT.out.row.move (fun k hk => Below.heap_alloc _ _ k (hT.out.row.lt k hk).1)
              case src => exact .inr ⟨_, rfl, by have h := World.news_of_block (cs := #[.int .i64 x.f0, .int .i64 x.f1, .int .i64 x.f2]) (t := 36) (fr := (0, 0)) (heap_alloc_new wr (.cells #[.int .i64 x.f0, .int .i64 x.f1, .int .i64 x.f2] 36)); simpa [enc3] using h⟩
              case low => have := (Array.getElem?_eq_some_iff.1 hT.out.got).1; simp; omega
              case len => have := erase_len_le l P i; have := HL.out; omega
              case go =>
                intro v1 w1 hrow hg hr1
                have hT2 := hT.out.app ((Below.refl _ _).alloc (Nat.le_refl _) _) hg hrow
                rw [← hout] at hT2
                replace hT2 := Lib.hid hT2
                obtain ⟨A2, c2', rfl, _⟩ := hrow.slice
                clear hrow hg hr1
                go_wp2_with fail
                go_roundw
                case rel => exact ⟨i + 1, by omega, by go_num, by rw [hcs.out]; rfl, by rw [← hgt.out]; exact hT2.out⟩
                case measure => simp [intOf]; omega
          · have e0 : ¬ ((i : Int) < (l.length : Int)) := by omega
            obtain rfl : i = l.length := by omega
            have hT2 := hT.out
            rw [List.take_length, if_pos q2] at hT2
            clear hT
            have hfin := hT2.fin HS.out HB0.out (.int .i64 (l.getD P z30).f0) (.int .i64 (l.getD P z30).f1) (.int .i64 (l.getD P z30).f2)
            rw [List.take_length]
            generalize hle : l.eraseIdx P = le at *
            replace hle := Lib.hid hle
            have hr := (Below.heap_setCell wr ⟨g, 0, none⟩ (.slice A1 le.length c1') w.heap.size (by show w.heap.size ≠ g; omega)).trans hT2.res
            have hg2 := (Below.heap_setCell wr ⟨g, 0, none⟩ (.slice A1 le.length c1') (w.heap.size + 1) (by show w.heap.size + 1 ≠ g; omega)).trans hT2.got
            have hfr : wr.frozen? ⟨g, 0, none⟩ = false := blk_frozen ((hT2.below.block g hgl).trans HS.out.blk) 0
            have s0 : _ = some (Value.int .i64 (l.getD P z30).f0) := (blk_cell hg2 0).trans rfl
            have s1 : _ = some (Value.int .i64 (l.getD P z30).f1) := (blk_cell hg2 1).trans rfl
            have s2 : _ = some (Value.int .i64 (l.getD P z30).f2) := (blk_cell hg2 2).trans rfl
            have r0 : _ = some (Value.int .i64 0) := (blk_cell hr 0).trans rfl
            have r1 : _ = some (Value.int .i64 0) := (blk_cell hr 1).trans rfl
            have r2 : _ = some (Value.int .i64 0) := (blk_cell hr 2).trans rfl
            have rf : ∀ o, (wr.setCell ⟨g, 0, none⟩ (.slice A1 le.length c1')).frozen? ⟨w.heap.size, o, none⟩ = false := fun o => blk_frozen hr o
            generalize hgx : l.getD P z30 = x at *
            clear hc hlc
            replace hgx := Lib.hid hgx
            replace hr := Lib.hid hr
            replace hg2 := Lib.hid hg2
            replace hT2 := Lib.hid hT2
            replace hfin := Lib.hid hfin
            go_wp2_with fail
            refine bodyPost_ret (v := .tuple #[.agg #[.int .i64 x.f0, .int .i64 x.f1, .int .i64 x.f2], .bool true]) (results_ct Try.results15 _ _ w.heap.size 36 #[.int .i64 x.f0, .int .i64 x.f1, .int .i64 x.f2] (0, 0) _ rfl ((blk_set (blk_set (blk_set hr.out 0 _) 1 _) 2 _).trans rfl) Try.underlying36 rfl (by kernel_rfl)) rfl (And.intro ?_ ?_)
            · rw [hgx.out]
            · rw [hle.out]; exact hfin.out
end Go.Proofs.Ytojdbpeaclnmkaa.Rd
