/- What a slot tells: the timer's call Tick. -/
import Derived.Test.YtdpfbmhdbnkdaaaTmRel
set_option linter.unusedVariables false
set_option linter.unusedSimpArgs false
namespace Go.Proofs.Ytdpfbmhdbnkdaaa.Tm
open Go Go.RowKit Go.Proofs.YtdpfbmhdbnkdaaaW.PrintWords Go.Proofs.YtdpfbmhdbnkdaaaW.PrintLast Go.Proofs.YtdpfbmhdbnkdaaaW.PrintMore Go.Proofs.Ytdpfbmhdbnkdaaa Go.Proofs.Ytdpfbmhdbnkdaaa.Print
attribute [local go_sem] max2_int min2_int max_two min_two
def z3 : W3 := ⟨0, 0, 0⟩
theorem due_getD (R : List W3) (k : Nat) : (R.map W3.due).getD k z48 = (R.getD k z3).due := by
  rw [List.getD_eq_getElem?_getD, List.getD_eq_getElem?_getD, List.getElem?_map]
  cases R[k]? <;> rfl
theorem take_snoc3 (l : List W3) (k : Nat) (h : k < l.length) : l.take (k + 1) = l.take k ++ [l.getD k z3] := by
  rw [List.getD_eq_getElem?_getD, List.getElem?_eq_getElem h]
  exact List.take_succ_eq_append_getElem h
theorem drop_cons3 (l : List W3) (k : Nat) (h : k < l.length) : l.drop k = l.getD k z3 :: l.drop (k + 1) := by
  rw [List.drop_eq_getElem_cons h, List.getD_eq_getElem?_getD, List.getElem?_eq_getElem h]
  rfl
theorem told_snoc (now : Int) (l : List W3) (x : W3) : told now (l ++ [x]) = told now l ++ (if x.a ≤ now then [x] else []) := by
  unfold told
  rw [List.filter_append, List.filter_cons]
  by_cases h : x.a ≤ now <;> simp [h]
theorem left_snoc (now : Int) (l : List W3) (x : W3) : left now (l ++ [x]) = left now l ++ (if x.a ≤ now then [] else [x]) := by
  unfold left
  rw [List.filter_append, List.filter_cons]
  by_cases h : x.a ≤ now <;> simp [h]
/-- within Tick: the timer, what is told so far (from block B on), the row of what waits -/
structure TkS (w : World) (B : Nat) (W : World) (g m : Nat) (pv : Value) (now : Nat) (ws : List W3) (vo : Value) (l : List S48) (vk : Value) (K : List S48) : Prop where
  tim : TimAt W g m pv now ws
  out : RowIs W B vo l
  key : RowIs W 0 vk K
  kps : Keeps [g, m] w W
  kb : ∀ k, vk.ownBlock = some k → k < B
  low : w.heap.size ≤ B ∧ B ≤ W.heap.size
  gl : g < w.heap.size ∧ m < w.heap.size
section
variable {w W W1 W2 : World} {B g m : Nat} {pv vo vk v1 : Value} {now : Nat} {ws ws' : List W3} {l K : List S48}
theorem TkS.step (h : TkS w B W g m pv now ws vo l vk K) (hb : Below W.heap.size W W1) : TkS w B W1 g m pv now ws vo l vk K :=
  ⟨h.tim.step hb, RowIs.step h.out hb, RowIs.step h.key hb, h.kps.trans (Keeps.of_below hb _), h.kb, ⟨h.low.1, Nat.le_trans h.low.2 hb.size⟩, h.gl⟩
theorem TkS.app (h : TkS w B W g m pv now ws vo l vk K) (hb : Below W.heap.size W W1) (hg : W1.grownBy W2 vo.ownBlock) (d : S48) (hr : LRow W2 B 48 2 v1 (l.length + 1) (l.flatMap enc2 ++ enc2 d)) : TkS w B W2 g m pv now ws v1 (l ++ [d]) vk K := by
  have hbs := hb.size
  have hl2 := h.low
  have hgl := h.gl
  have hgs := hg.size
  have h1 : ∀ k, k < W.heap.size → (∀ q, vo.ownBlock = some q → k ≠ q) → W2.heap[k]? = W.heap[k]? := fun k hk hn => (hg.block k (by omega) (fun e => hn k e.symm rfl)).trans (hb.block k hk)
  have hlo : ∀ q, vo.ownBlock = some q → B ≤ q := fun q hq => (LRow.lt h.out q hq).2.1
  refine ⟨h.tim.move (h1 g h.tim.lt.1 (fun q hq e => by have := hlo q hq; omega)) (h1 m h.tim.lt.2 (fun q hq e => by have := hlo q hq; omega)), ?_, LRow.move h.key (fun k hk => h1 k (LRow.lt h.key k hk).1 (fun q hq e => by have := hlo q hq; have := h.kb k hk; omega)), ?_, h.kb, ⟨h.low.1, by omega⟩, h.gl⟩
  · unfold RowIs
    rw [List.length_append, flat_append]
    simpa using hr
  · exact h.kps.trans' ((Keeps.of_below hb (ownL vo)).trans (Keeps.of_grown hg (ownL vo) (fun k hk => .inl (mem_ownL.2 hk)))) (fun k hk => .inr (by have := hlo k (mem_ownL.1 hk); omega))
theorem TkS.drop (h : TkS w B W g m pv now ws vo l vk K) (hk : Keeps [m] W W1) (hM : MapIs W1 m ws') : TkS w B W1 g m pv now ws' vo l vk K := by
  have far : ∀ {v : Value} {n : Nat} {xs : List Value} {B' : Nat}, LRow W B' 48 2 v n xs → LRow W1 B' 48 2 v n xs := fun hr => hr.move (fun k hk2 => hk.block k (LRow.lt hr k hk2).1 (by
    rw [List.mem_singleton]
    rintro rfl
    obtain ⟨_, _, cur, hc⟩ := LRow.lt hr _ hk2
    obtain ⟨es, clock, h1, _⟩ := h.tim.map
    rw [h1] at hc
    cases hc))
  exact ⟨⟨(hk.block g h.tim.lt.1 (by rw [List.mem_singleton]; exact h.tim.ne)).trans h.tim.blk, hM⟩, far h.out, far h.key, h.kps.trans (hk.mono (by simp)), h.kb, ⟨h.low.1, Nat.le_trans h.low.2 hk.size⟩, h.gl⟩
end
def TickPost (w : World) (g m : Nat) (pv : Value) (now : Nat) (R : List W3) (e : Ending) (w' : World) : Prop := ∃ v, e = .returned v ∧ RowIs w' w.heap.size v ((told now R).map W3.due) ∧ TimAt w' g m pv (now + 1) (left now R) ∧ Keeps [g, m] w w'
def TickRel (w : World) (B g m : Nat) (pv : Value) (now : Nat) (R : List W3) (vk : Value) (vo vi : Value) (wr : World) : Prop := ∃ k : Nat, k ≤ R.length ∧ vi = .int .i64 k ∧ TkS w B wr g m pv now (left now (R.take k) ++ R.drop k) vo ((told now (R.take k)).map W3.due) vk (R.map W3.due)
set_option maxRecDepth 100000 in
set_option maxHeartbeats 8000000 in
theorem tick_any (g m pb pc : Nat) (ps : List Int) (now : Nat) (ws : List W3) (A : Option Addr) (c : Nat) (qs : List Int) (w : World) (h : TimAt w g m (.slice (some ⟨pb, 0, none⟩) ps.length pc) now ws) (hps : PsAt w pb ps) (hok : PsOk ps) (hgood : Good ps now ws) (hn : now ≤ 10000) (hq : PkAt w A c qs) (hql : (qs.length : Int) ≤ 9223372036854775807) :
    Calls Try.prog 14 #[.pointer (some ⟨g, 0, none⟩), .slice A qs.length c] w (TickPost w g m (.slice (some ⟨pb, 0, none⟩) ps.length pc) now (rel now 0 ps qs ws)) := by
  have hc2 := h.c2
  have hgl := Lib.hid h.lt
  have HM := rel_mid ps now hok.le ps qs 0 ws (by omega) hgood.mid
  rw [show ((0 : Nat) : Int) = 0 from rfl] at HM
  have HC := Lib.hid (release_any g m pb pc ps now ws A c qs w h hps hok hgood (by omega) hq hql)
  have hp8 := hok.le
  have HN := Lib.hid hn
  clear h hps hok hgood hn hq
  replace hql := Lib.hid hql
  generalize hR : rel now 0 ps qs ws = R at *
  replace hR := Lib.hid hR
  have hRl : R.length ≤ 100000 := by have := HM.len; have := HN.out; omega
  generalize hpv : (Value.slice (some ⟨pb, 0, none⟩) ps.length pc) = pv at *
  replace hpv := Lib.hid hpv
  replace HM := Lib.hid HM
  go_enter Try.func14, Try.ntmps14
  go_wp2_with fail
  refine (there_is _ g m hc2).mono ?_
  rintro e w1 ⟨rfl, rfl⟩
  clear hc2
  go_wp2_with fail
  refine HC.out.mono ?_
  rintro e w1 ⟨rfl, hT1, hk1⟩
  have hW := Lib.hid (wait_any g m pv now R w1 hT1 HM.out.sorted hRl)
  replace hT1 := Lib.hid hT1
  replace hk1 := Lib.hid hk1
  clear HC
  go_wp2_with fail
  refine hW.out.mono ?_
  rintro e w2 ⟨vk, rfl, hrow, hb2⟩
  obtain ⟨AK, cK, rfl, _⟩ := LRow.slice hrow
  have hS0 : TkS w w2.heap.size w2 g m pv now R (.slice none 0 0) [] (.slice AK (R.map W3.due).length cK) (R.map W3.due) :=
    ⟨hT1.out.step hb2, RowIs.nil _ _, LRow.low hrow (Nat.zero_le _), (hk1.out.mono (by simp)).trans (Keeps.of_below hb2 _), fun k hk => (LRow.lt hrow k hk).1, ⟨Nat.le_trans hk1.out.size hb2.size, Nat.le_refl _⟩, hgl.out⟩
  replace hS0 := Lib.hid hS0
  clear hrow hb2 hW hT1 hk1
  generalize hB : w2.heap.size = B at *
  clear hB
  go_wp2_with fail
  rw [List.length_map] at *
  go_loopw [5, 17] (fun vo vi wr => TickRel w B g m pv now R (.slice AK R.length cK) vo vi wr) (fun _ vi _ => R.length - (intOf vi).toNat)
  case atStart => exact ⟨0, Nat.zero_le _, rfl, by simpa [told, left] using hS0.out⟩
  case round =>
    obtain ⟨k, hk, rfl, hS⟩ := hrel
    replace hS := Lib.hid hS
    obtain ⟨AO, cO, rfl, _⟩ := LRow.slice hS.out.out
    by_cases hlk : k < R.length
    · have hlk' : (k : Int) < (R.length : Int) := by omega
      have hkb : k < 100000 := by omega
      have hkey : LRow wr 0 48 2 (.slice AK R.length cK) R.length ((R.map W3.due).flatMap enc2) := by have h9 := hS.out.key; unfold RowIs at h9; rwa [List.length_map] at h9
      obtain ⟨bk, rfl⟩ : ∃ bk, AK = some ⟨bk, 0, none⟩ := by
        rcases hkey.2 with ⟨_, h3⟩ | ⟨bk, cap, cur, h3, _⟩
        · omega
        · injection h3 with h3
          exact ⟨bk, h3⟩
      obtain ⟨c0, c1⟩ := cells_at hkey (List.length_map _) k (R.getD k z3).due (by rw [List.getElem?_map, List.getD_eq_getElem?_getD, List.getElem?_eq_getElem hlk]; rfl)
      clear hkey
      have htk := told_snoc now (R.take k) (R.getD k z3)
      have hlf := left_snoc now (R.take k) (R.getD k z3)
      rw [← take_snoc3 R k hlk] at htk hlf
      rw [drop_cons3 R k hlk] at hS
      generalize R.getD k z3 = x at *
      obtain ⟨xt, xn, xa⟩ := x
      have hS1 := Lib.hid (hS.out.step ((Below.refl _ _).alloc (Nat.le_refl _) (.cells #[.int .i64 xt, .int .i64 xn] 48)))
      have hlook := Lib.hid ((hS1.out.step (Below.refl _ _).drew).tim.map.look ⟨xt, xn, xa⟩ (by simp))
      have f1 := hS1.out.tim.c1
      have f2 := hS1.out.tim.c2
      have hbx := heap_alloc_new wr (.cells #[.int .i64 xt, .int .i64 xn] 48)
      have x0 : _ = some (Value.int .i64 xt) := (blk_cell hbx 0).trans rfl
      have x1 : _ = some (Value.int .i64 xn) := (blk_cell hbx 1).trans rfl
      replace hbx := Lib.hid hbx
      dsimp only at htk hlf c0 c1
      replace c0 : wr.cell? ⟨bk, k * 2, none⟩ = some (.int .i64 xt) := c0
      replace c1 : wr.cell? ⟨bk, k * 2 + 1, none⟩ = some (.int .i64 xn) := c1
      replace htk := Lib.hid htk
      replace hlf := Lib.hid hlf
      have hll : (told now (R.take k)).length ≤ 100000 := by
        have h1 : (told now (R.take k)).length ≤ (R.take k).length := List.length_filter_le _ _
        rw [List.length_take] at h1
        omega
      have hLl : ((told now (R.take k)).map W3.due).length ≤ 100000 := by rw [List.length_map]; exact hll
      generalize hL : (told now (R.take k)).map W3.due = l at *
      replace hL := Lib.hid hL
      clear hll
      by_cases ha : xa ≤ (now : Int)
      · have ta : decide (xa ≤ (now : Int)) = true := decide_eq_true ha
        replace ha := Lib.hid ha
        go_wp2_with fail
        refine start_ (n := 11) (S := fun w' => (w'.cell? ⟨g, 2, none⟩ = some (.map (some m)) ∧ w'.cell? ⟨g, 1, none⟩ = some (.int .i64 now)) ∧ (w'.cell? ⟨wr.heap.size, 0, none⟩ = some (.int .i64 xt) ∧ w'.cell? ⟨wr.heap.size, 1, none⟩ = some (.int .i64 xn)) ∧ Sem.run Try.prog (Instr.lookup 51 (.map (some m)) (.agg #[.int .i64 xt, .int .i64 xn]) false) w' = .ok (.int .i64 xa) w') (ds := []) #[false, false, false, false, false, false, false, false, false, false, false] (by kernel_rfl) rfl rfl ⟨⟨f2, f1⟩, ⟨x0, x1⟩, hlook.out⟩ (fun hHeld => ?_)
        refine pure_ (i := 0) (N := some 21) (v := ?_) (a' := ?_) #[true, false, false, false, false, false, false, false, false, false, false] rfl rfl (by kernel_rfl) (fun _ _ _ h => h) (Or.inl ⟨by rfl, ?_⟩) ?_ ?_
        rotate_left
        · intro w'
          go_simp
          first | with_reducible rfl | rfl
        rotate_left
        · simp only [Act.put, List.setIfInBounds_toArray, List.set_cons_zero, List.set_cons_succ, i64_w, i32_w]
          rfl
        refine pure_ (i := 1) (N := some 22) (v := ?_) (a' := ?_) #[true, true, false, false, false, false, false, false, false, false, false] rfl rfl (by kernel_rfl) (fun _ _ _ h => h) (Or.inl ⟨by rfl, ?_⟩) ?_ ?_
        rotate_left
        · intro w'
          go_simp
          first | with_reducible rfl | rfl
        rotate_left
        · simp only [Act.put, List.setIfInBounds_toArray, List.set_cons_zero, List.set_cons_succ, i64_w, i32_w]
          rfl
        refine pure_ (i := 2) (N := some 23) (v := ?_) (a' := ?_) #[true, true, true, false, false, false, false, false, false, false, false] rfl rfl (by kernel_rfl) (fun _ _ _ h => h) (Or.inl ⟨by rfl, ?_⟩) ?_ ?_
        rotate_left
        · intro w'
          go_simp
          first | with_reducible rfl | rfl
        rotate_left
        · simp only [Act.put, List.setIfInBounds_toArray, List.set_cons_zero, List.set_cons_succ, i64_w, i32_w]
          rfl
        refine pure_ (i := 6) (N := some 27) (v := ?_) (a' := ?_) #[true, true, true, false, false, false, true, false, false, false, false] rfl rfl (by kernel_rfl) (fun _ _ _ h => h) (Or.inl ⟨by rfl, ?_⟩) ?_ ?_
        rotate_left
        · intro w'
          go_simp
          first | with_reducible rfl | rfl
        rotate_left
        · simp only [Act.put, List.setIfInBounds_toArray, List.set_cons_zero, List.set_cons_succ, i64_w, i32_w]
          rfl
        refine pure_ (i := 7) (N := some 28) (v := ?_) (a' := ?_) #[true, true, true, false, false, false, true, true, false, false, false] rfl rfl (by kernel_rfl) (fun _ _ _ h => h) (Or.inl ⟨by rfl, ?_⟩) ?_ ?_
        rotate_left
        · intro w'
          go_simp
          first | with_reducible rfl | rfl
        rotate_left
        · simp only [Act.put, List.setIfInBounds_toArray, List.set_cons_zero, List.set_cons_succ, i64_w, i32_w]
          rfl
        refine pure_ (i := 8) (N := some 29) (v := ?_) (a' := ?_) #[true, true, true, false, false, false, true, true, true, false, false] rfl rfl (by kernel_rfl) (fun _ _ _ h => h) (Or.inl ⟨by rfl, ?_⟩) ?_ ?_
        rotate_left
        · intro w'
          go_simp
          first | with_reducible rfl | rfl
        rotate_left
        · simp only [Act.put, List.setIfInBounds_toArray, List.set_cons_zero, List.set_cons_succ, i64_w, i32_w]
          rfl
        refine take_ (i := 3) (N := some 24) (v := ?_) (a' := ?_) #[true, true, true, true, false, false, true, true, true, false, false] rfl rfl (by kernel_rfl) (fun _ _ _ h => h) (Or.inl ⟨by rfl, ?_⟩) hHeld ?_ ?_
        rotate_left
        · rintro w' ⟨⟨s0, s1⟩, ⟨s2, s3⟩, s4⟩
          go_simp
          first | with_reducible rfl | rfl
        rotate_left
        · simp only [Act.put, List.setIfInBounds_toArray, List.set_cons_zero, List.set_cons_succ, i64_w, i32_w]
          rfl
        refine take_ (i := 4) (N := some 25) (v := ?_) (a' := ?_) #[true, true, true, true, true, false, true, true, true, false, false] rfl rfl (by kernel_rfl) (fun _ _ _ h => h) (Or.inl ⟨by rfl, ?_⟩) hHeld ?_ ?_
        rotate_left
        · rintro w' ⟨⟨s0, s1⟩, ⟨s2, s3⟩, s4⟩
          go_simp
          first | with_reducible rfl | rfl
        rotate_left
        · simp only [Act.put, List.setIfInBounds_toArray, List.set_cons_zero, List.set_cons_succ, i64_w, i32_w]
          rfl
        refine take_ (i := 9) (N := some 30) (v := ?_) (a' := ?_) #[true, true, true, true, true, false, true, true, true, true, false] rfl rfl (by kernel_rfl) (fun _ _ _ h => h) (Or.inl ⟨by rfl, ?_⟩) hHeld ?_ ?_
        rotate_left
        · rintro w' ⟨⟨s0, s1⟩, ⟨s2, s3⟩, s4⟩
          go_simp
          first | with_reducible rfl | rfl
        rotate_left
        · simp only [Act.put, List.setIfInBounds_toArray, List.set_cons_zero, List.set_cons_succ, i64_w, i32_w]
          rfl
        refine take_ (i := 5) (N := some 26) (v := ?_) (a' := ?_) #[true, true, true, true, true, true, true, true, true, true, false] rfl rfl (by kernel_rfl) (fun _ _ _ h => h) (Or.inl ⟨by rfl, ?_⟩) hHeld ?_ ?_
        rotate_left
        · rintro w' ⟨⟨s0, s1⟩, ⟨s2, s3⟩, s4⟩
          go_simp
          first | with_reducible rfl | rfl
        rotate_left
        · simp only [Act.put, List.setIfInBounds_toArray, List.set_cons_zero, List.set_cons_succ, i64_w, i32_w]
          rfl
        refine pure_ (i := 10) (N := some 31) (v := ?_) (a' := ?_) #[true, true, true, true, true, true, true, true, true, true, true] rfl rfl (by kernel_rfl) (fun _ _ _ h => h) (Or.inl ⟨by rfl, ?_⟩) ?_ ?_
        rotate_left
        · intro w'
          go_simp
          first | with_reducible rfl | rfl
        rotate_left
        · simp only [Act.put, List.setIfInBounds_toArray, List.set_cons_zero, List.set_cons_succ, i64_w, i32_w]
          rfl
        refine done_ (by kernel_rfl) ?_
        clear hlook
        go_wp2_with (first | (at_builtin; refine wpList_append_loose _ B rfl (.tmp 32) (.tmp 34) 33 48 _ 2 16 rfl Try.underlying33 info48 rfl (by decide) (by decide) (.slice AO l.length cO) l.length (l.flatMap enc2) (enc2 ⟨xt, xn⟩) (some ⟨_, 0, none⟩) 1 1 rfl rfl rfl (fun u hu => flat_one [⟨xt, xn⟩] u (by simpa using hu)) ?row ?src ?low ?len ?go) | fail)
        case row => exact RowIs.step hS1.out.out (((Below.refl _ _).alloc (by simp) _).drew)
        case src => exact .inr ⟨_, rfl, by have h := World.news_of_block (cs := #[.int .i64 xt, .int .i64 xn]) (t := 48) (fr := (0, 0)) (heap_alloc_new (wr.alloc (.cells #[.int .i64 xt, .int .i64 xn] 48)) (.cells #[.int .i64 xt, .int .i64 xn] 48)); simpa [enc2] using h⟩
        case low => have := hS1.out.low.2; simp at this ⊢; omega
        case len => omega
        case go =>
          intro v1 w3 hrow3 hg hr1
          have hbl := (((Below.refl wr.heap.size wr).alloc (Nat.le_refl _) (.cells #[.int .i64 xt, .int .i64 xn] 48)).alloc (by simp) (.cells #[.int .i64 xt, .int .i64 xn] 48)).drew
          have hS3 := Lib.hid (hS.out.app hbl hg ⟨xt, xn⟩ hrow3)
          have hbx3 : w3.heap[wr.heap.size]? = some (.cells #[.int .i64 xt, .int .i64 xn] 48 (0, 0)) := (hg.block wr.heap.size (by simp; omega) (fun e => by have := (LRow.lt hS.out.out wr.heap.size e.symm).1; omega)).trans ((Below.heap_alloc _ _ wr.heap.size (by simp)).trans hbx.out)
          clear f1 f2 x0 x1 c0 c1
          have f1 := hS3.out.tim.c1
          have f2 := hS3.out.tim.c2
          have x0 : _ = some (Value.int .i64 xt) := (blk_cell hbx3 0).trans rfl
          have x1 : _ = some (Value.int .i64 xn) := (blk_cell hbx3 1).trans rfl
          obtain ⟨A2, c2, rfl, _⟩ := LRow.slice hrow3
          obtain ⟨w4, hdel, hM4, hk4⟩ := MapIs.drop (W := w3.drew) (m := m) (ty := 0) ⟨xt, xn, xa⟩ ((hS3.out.step (Below.refl _ _).drew).tim.map.perm List.perm_middle)
          have hS4 := Lib.hid ((hS3.out.step (Below.refl _ _).drew).drop hk4 hM4)
          replace hbx3 := Lib.hid hbx3
          replace hdel := Lib.hid hdel
          clear hrow3 hg hr1 hbl hM4 hk4
          go_wp2_with fail
          replace hdel := hdel.out
          refine start_ (n := 6) (S := fun w' => w'.cell? ⟨g, 2, none⟩ = some (.map (some m)) ∧ w'.cell? ⟨wr.heap.size, 0, none⟩ = some (.int .i64 xt) ∧ w'.cell? ⟨wr.heap.size, 1, none⟩ = some (.int .i64 xn)) (ds := [5]) #[false, false, false, false, false, false] (by kernel_rfl) rfl rfl ⟨f2, x0, x1⟩ (fun hHeld => ?_)
          refine pure_ (i := 0) (N := some 36) (v := ?_) (a' := ?_) #[true, false, false, false, false, false] rfl rfl (by kernel_rfl) (fun _ _ _ h => h) (Or.inl ⟨by rfl, ?_⟩) ?_ ?_
          rotate_left
          · intro w'
            go_simp
            first | with_reducible rfl | rfl
          rotate_left
          · simp only [Act.put, List.setIfInBounds_toArray, List.set_cons_zero, List.set_cons_succ, i64_w, i32_w]
            rfl
          refine pure_ (i := 1) (N := some 37) (v := ?_) (a' := ?_) #[true, true, false, false, false, false] rfl rfl (by kernel_rfl) (fun _ _ _ h => h) (Or.inl ⟨by rfl, ?_⟩) ?_ ?_
          rotate_left
          · intro w'
            go_simp
            first | with_reducible rfl | rfl
          rotate_left
          · simp only [Act.put, List.setIfInBounds_toArray, List.set_cons_zero, List.set_cons_succ, i64_w, i32_w]
            rfl
          refine pure_ (i := 2) (N := some 38) (v := ?_) (a' := ?_) #[true, true, true, false, false, false] rfl rfl (by kernel_rfl) (fun _ _ _ h => h) (Or.inl ⟨by rfl, ?_⟩) ?_ ?_
          rotate_left
          · intro w'
            go_simp
            first | with_reducible rfl | rfl
          rotate_left
          · simp only [Act.put, List.setIfInBounds_toArray, List.set_cons_zero, List.set_cons_succ, i64_w, i32_w]
            rfl
          refine take_ (i := 3) (N := some 39) (v := ?_) (a' := ?_) #[true, true, true, true, false, false] rfl rfl (by kernel_rfl) (fun _ _ _ h => h) (Or.inl ⟨by rfl, ?_⟩) hHeld ?_ ?_
          rotate_left
          · rintro w' ⟨s0, s1, s2⟩
            go_simp
            first | with_reducible rfl | rfl
          rotate_left
          · simp only [Act.put, List.setIfInBounds_toArray, List.set_cons_zero, List.set_cons_succ, i64_w, i32_w]
            rfl
          refine take_ (i := 4) (N := some 40) (v := ?_) (a' := ?_) #[true, true, true, true, true, false] rfl rfl (by kernel_rfl) (fun _ _ _ h => h) (Or.inl ⟨by rfl, ?_⟩) hHeld ?_ ?_
          rotate_left
          · rintro w' ⟨s0, s1, s2⟩
            go_simp
            first | with_reducible rfl | rfl
          rotate_left
          · simp only [Act.put, List.setIfInBounds_toArray, List.set_cons_zero, List.set_cons_succ, i64_w, i32_w]
            rfl
          refine last_ (i := 5) (N := none) #[true, true, true, true, true, true] rfl rfl (by kernel_rfl) (by decide) (fun K hK => ?_)
          refine value_ (w1 := w4) (v := .tuple #[]) (by rfl) rfl ?_ ?_
          · go_simp
            have hdel2 : Sem.run Try.prog (Builtin.delete_ #[51, 48] _ #[.map (some m), .agg #[.int .i64 xt, .int .i64 xn]]) _ = .ok (.tuple #[]) w4 := hdel
            rw [hdel2]
            rfl
          refine hK.out _ _ ?_
          clear hK K
          refine done_ (by kernel_rfl) ?_
          clear hdel f1 f2 x0 x1
          go_wp2_with fail
          go_roundw
          case rel => exact ⟨k + 1, by omega, by go_num, by rw [htk.out, hlf.out, if_pos (by have := ha.out; omega), if_pos (by have := ha.out; omega), List.map_append, hL.out, List.append_nil]; exact hS4.out⟩
          case measure => simp [intOf]; omega
      · have ta : decide (xa ≤ (now : Int)) = false := decide_eq_false ha
        replace ha := Lib.hid ha
        go_wp2_with fail
        refine start_ (n := 11) (S := fun w' => (w'.cell? ⟨g, 2, none⟩ = some (.map (some m)) ∧ w'.cell? ⟨g, 1, none⟩ = some (.int .i64 now)) ∧ (w'.cell? ⟨wr.heap.size, 0, none⟩ = some (.int .i64 xt) ∧ w'.cell? ⟨wr.heap.size, 1, none⟩ = some (.int .i64 xn)) ∧ Sem.run Try.prog (Instr.lookup 51 (.map (some m)) (.agg #[.int .i64 xt, .int .i64 xn]) false) w' = .ok (.int .i64 xa) w') (ds := []) #[false, false, false, false, false, false, false, false, false, false, false] (by kernel_rfl) rfl rfl ⟨⟨f2, f1⟩, ⟨x0, x1⟩, hlook.out⟩ (fun hHeld => ?_)
        refine pure_ (i := 0) (N := some 21) (v := ?_) (a' := ?_) #[true, false, false, false, false, false, false, false, false, false, false] rfl rfl (by kernel_rfl) (fun _ _ _ h => h) (Or.inl ⟨by rfl, ?_⟩) ?_ ?_
        rotate_left
        · intro w'
          go_simp
          first | with_reducible rfl | rfl
        rotate_left
        · simp only [Act.put, List.setIfInBounds_toArray, List.set_cons_zero, List.set_cons_succ, i64_w, i32_w]
          rfl
        refine pure_ (i := 1) (N := some 22) (v := ?_) (a' := ?_) #[true, true, false, false, false, false, false, false, false, false, false] rfl rfl (by kernel_rfl) (fun _ _ _ h => h) (Or.inl ⟨by rfl, ?_⟩) ?_ ?_
        rotate_left
        · intro w'
          go_simp
          first | with_reducible rfl | rfl
        rotate_left
        · simp only [Act.put, List.setIfInBounds_toArray, List.set_cons_zero, List.set_cons_succ, i64_w, i32_w]
          rfl
        refine pure_ (i := 2) (N := some 23) (v := ?_) (a' := ?_) #[true, true, true, false, false, false, false, false, false, false, false] rfl rfl (by kernel_rfl) (fun _ _ _ h => h) (Or.inl ⟨by rfl, ?_⟩) ?_ ?_
        rotate_left
        · intro w'
          go_simp
          first | with_reducible rfl | rfl
        rotate_left
        · simp only [Act.put, List.setIfInBounds_toArray, List.set_cons_zero, List.set_cons_succ, i64_w, i32_w]
          rfl
        refine pure_ (i := 6) (N := some 27) (v := ?_) (a' := ?_) #[true, true, true, false, false, false, true, false, false, false, false] rfl rfl (by kernel_rfl) (fun _ _ _ h => h) (Or.inl ⟨by rfl, ?_⟩) ?_ ?_
        rotate_left
        · intro w'
          go_simp
          first | with_reducible rfl | rfl
        rotate_left
        · simp only [Act.put, List.setIfInBounds_toArray, List.set_cons_zero, List.set_cons_succ, i64_w, i32_w]
          rfl
        refine pure_ (i := 7) (N := some 28) (v := ?_) (a' := ?_) #[true, true, true, false, false, false, true, true, false, false, false] rfl rfl (by kernel_rfl) (fun _ _ _ h => h) (Or.inl ⟨by rfl, ?_⟩) ?_ ?_
        rotate_left
        · intro w'
          go_simp
          first | with_reducible rfl | rfl
        rotate_left
        · simp only [Act.put, List.setIfInBounds_toArray, List.set_cons_zero, List.set_cons_succ, i64_w, i32_w]
          rfl
        refine pure_ (i := 8) (N := some 29) (v := ?_) (a' := ?_) #[true, true, true, false, false, false, true, true, true, false, false] rfl rfl (by kernel_rfl) (fun _ _ _ h => h) (Or.inl ⟨by rfl, ?_⟩) ?_ ?_
        rotate_left
        · intro w'
          go_simp
          first | with_reducible rfl | rfl
        rotate_left
        · simp only [Act.put, List.setIfInBounds_toArray, List.set_cons_zero, List.set_cons_succ, i64_w, i32_w]
          rfl
        refine take_ (i := 3) (N := some 24) (v := ?_) (a' := ?_) #[true, true, true, true, false, false, true, true, true, false, false] rfl rfl (by kernel_rfl) (fun _ _ _ h => h) (Or.inl ⟨by rfl, ?_⟩) hHeld ?_ ?_
        rotate_left
        · rintro w' ⟨⟨s0, s1⟩, ⟨s2, s3⟩, s4⟩
          go_simp
          first | with_reducible rfl | rfl
        rotate_left
        · simp only [Act.put, List.setIfInBounds_toArray, List.set_cons_zero, List.set_cons_succ, i64_w, i32_w]
          rfl
        refine take_ (i := 4) (N := some 25) (v := ?_) (a' := ?_) #[true, true, true, true, true, false, true, true, true, false, false] rfl rfl (by kernel_rfl) (fun _ _ _ h => h) (Or.inl ⟨by rfl, ?_⟩) hHeld ?_ ?_
        rotate_left
        · rintro w' ⟨⟨s0, s1⟩, ⟨s2, s3⟩, s4⟩
          go_simp
          first | with_reducible rfl | rfl
        rotate_left
        · simp only [Act.put, List.setIfInBounds_toArray, List.set_cons_zero, List.set_cons_succ, i64_w, i32_w]
          rfl
        refine take_ (i := 9) (N := some 30) (v := ?_) (a' := ?_) #[true, true, true, true, true, false, true, true, true, true, false] rfl rfl (by kernel_rfl) (fun _ _ _ h => h) (Or.inl ⟨by rfl, ?_⟩) hHeld ?_ ?_
        rotate_left
        · rintro w' ⟨⟨s0, s1⟩, ⟨s2, s3⟩, s4⟩
          go_simp
          first | with_reducible rfl | rfl
        rotate_left
        · simp only [Act.put, List.setIfInBounds_toArray, List.set_cons_zero, List.set_cons_succ, i64_w, i32_w]
          rfl
        refine take_ (i := 5) (N := some 26) (v := ?_) (a' := ?_) #[true, true, true, true, true, true, true, true, true, true, false] rfl rfl (by kernel_rfl) (fun _ _ _ h => h) (Or.inl ⟨by rfl, ?_⟩) hHeld ?_ ?_
        rotate_left
        · rintro w' ⟨⟨s0, s1⟩, ⟨s2, s3⟩, s4⟩
          go_simp
          first | with_reducible rfl | rfl
        rotate_left
        · simp only [Act.put, List.setIfInBounds_toArray, List.set_cons_zero, List.set_cons_succ, i64_w, i32_w]
          rfl
        refine pure_ (i := 10) (N := some 31) (v := ?_) (a' := ?_) #[true, true, true, true, true, true, true, true, true, true, true] rfl rfl (by kernel_rfl) (fun _ _ _ h => h) (Or.inl ⟨by rfl, ?_⟩) ?_ ?_
        rotate_left
        · intro w'
          go_simp
          first | with_reducible rfl | rfl
        rotate_left
        · simp only [Act.put, List.setIfInBounds_toArray, List.set_cons_zero, List.set_cons_succ, i64_w, i32_w]
          rfl
        refine done_ (by kernel_rfl) ?_
        clear hlook
        have hS2 := Lib.hid (hS1.out.step (Below.refl _ _).drew)
        clear f1 f2 x0 x1 c0 c1
        go_wp2_with fail
        go_roundw
        case rel => exact ⟨k + 1, by omega, by go_num, by rw [htk.out, hlf.out, if_neg (by have := ha.out; omega), if_neg (by have := ha.out; omega), List.map_append, hL.out, List.append_assoc]; simpa using hS2.out⟩
        case measure => simp [intOf]; omega
    · have e0 : ¬ ((k : Int) < (R.length : Int)) := by omega
      obtain rfl : k = R.length := by omega
      rw [List.take_length, List.drop_length, List.append_nil] at hS
      rw [List.take_length]
      generalize hL : (told now R).map W3.due = l at *
      replace hL := Lib.hid hL
      have f1 := hS.out.tim.c1
      have ff := hS.out.tim.fr 1
      have hne := hS.out.tim.ne
      have hnow : (now : Int) ≤ 10000 := by have := HN.out; omega
      have hgo : ∀ q, (Value.slice AO l.length cO).ownBlock = some q → q ≠ g := fun q hq e => by
        have h1 := (LRow.lt hS.out.out q hq).2.1
        have h2 := hS.out.low.1
        have h3 := hgl.out.1
        omega
      have hfin : RowIs (wr.setCell ⟨g, 1, none⟩ (.int .i64 ((now : Int) + 1))) w.heap.size (.slice AO l.length cO) l ∧ TimAt (wr.setCell ⟨g, 1, none⟩ (.int .i64 ((now : Int) + 1))) g m pv (now + 1) (left now R) ∧ Keeps [g, m] w (wr.setCell ⟨g, 1, none⟩ (.int .i64 ((now : Int) + 1))) :=
        ⟨LRow.low (LRow.move hS.out.out (fun q hq => Below.heap_setCell wr ⟨g, 1, none⟩ _ q (hgo q hq))) hS.out.low.1, ⟨(blk_set hS.out.tim.blk 1 _).trans rfl, hS.out.tim.map.move (Below.heap_setCell wr ⟨g, 1, none⟩ _ m (Ne.symm hne))⟩, hS.out.kps.setCell g 1 _ (.inl (by simp))⟩
      replace hfin := Lib.hid hfin
      replace hne := Lib.hid hne
      replace hgo := Lib.hid hgo
      go_wp2_with fail
      go_ret
      exact ⟨_, rfl, by rw [hL.out]; exact hfin.out.1, hfin.out.2.1, hfin.out.2.2⟩
end Go.Proofs.Ytdpfbmhdbnkdaaa.Tm
