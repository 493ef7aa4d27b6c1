/- Steps of the walk, merged and shortened by a program (fit.py). -/
import Derived.Deep.OwnRows
import Derived.Lib.Hide
import Derived.Test.YtoopeamoejmjeaaGreatA01
import Derived.Test.YtoopeamoejmjeaaGreatA04
import Derived.Test.YtoopeamoejmjeaaGreatA05
import Derived.Test.YtoopeamoejmjeaaGreatWCut
set_option linter.unusedVariables false
set_option linter.unusedSimpArgs false
set_option maxRecDepth 100000
set_option maxHeartbeats 4000000
open Nat renaming le_refl → NR
open List renaming getElem?_eq_getElem → GE
open Go.RowKit.Below renaming refl → BR
open ByteArray renaming empty → BE
open List renaming getD_eq_getElem?_getD → GD
open Array renaming mem_of_getElem? → AM
open List renaming mem_of_getElem? → LM
open List renaming getElem?_eq_some_iff → GI
open List renaming map_toArray → MA
open Go.RowKit.Below renaming heap_setCell → BH
open Go.Lib renaming hid → ZZ
open Go.Value renaming int → O
open Go.IntKind renaming i64 → Y
namespace Go.Proofs.YtoopeamoejmjeaaGreat.Rd
open RowKit YtoopeamoejmjeaaGreatW.PrintWords YtoopeamoejmjeaaGreatW.PrintLast YtoopeamoejmjeaaGreatW.PrintMore Tp
def RowIs (w : World) (B : Nat) (v : Value) (l : List S30) : Prop := LRow w B 171 3 v l.length (l.flatMap enc3)
def AllPost (w : World) (l : List S30) (e : Ending) (w' : World) : Prop := ∃ va, e = .returned va ∧ RowIs w' w.heap.size va l ∧ Below w.heap.size w w'
theorem allOf (g B : Nat) (v : Value) (l : List S30) (w : World) (hs : SetIs 138 171 w B g v l) (hl : l.length ≤ 10000) : Calls Tryz.prog 120 #[.pointer (some ⟨g, 0, none⟩)] w (AllPost w l) := by
 obtain ⟨A, c, rfl, hlc⟩ := hs.slice; have hc := hs.cell; have HS := ZZ hs; have HL := ZZ hl; clear hs hlc hl; go_enter Tryz.func120, Tryz.ntmps120; go_wp2_with (first | (at_builtin; refine wpList_append_loose _ w.heap.size rfl (.const (.slice none 0 0)) (.tmp 8) 136 171 _ 3 24 rfl Tryz.underlying136 info30 rfl (by decide) (by decide) (.slice none 0 0) 0 [] (l.flatMap enc3) A l.length c rfl rfl (flat_len l) (flat_one l) ⟨rfl, .inl ⟨rfl, rfl⟩⟩ ?src (NR _) ?len ?go))
 case src =>
  cases A with
  | none =>
   rcases HS.out.row.2 with ⟨h1, h2⟩ | ⟨g1, cap, cur, h1, _⟩
   · have h3 : c = 0 := by injection h1
     left; first | exact ⟨rfl, rfl, h2, h3⟩ | simp_all
   · cases h1
  | some a => exact .inr ⟨a, rfl, fun j u hj => HS.out.row.cell j u hj⟩
 case len => have := HL.out; omega
 case go =>
  intro v1 w1 hrow hg hr1; obtain ⟨A2, c2, rfl, _⟩ := hrow.slice; have hb : Below w.heap.size w w1 := (BR _ _).grown hg (NR _) (fun k hk => by simp [Value.ownBlock] at hk); try rw [Nat.zero_add, List.nil_append] at hrow
  replace hrow := ZZ hrow; replace hb := ZZ hb; clear hg hr1; go_wp2_with fail; go_ret; exact ⟨_, rfl, hrow.out, hb.out⟩
theorem placesFrom_mem (p : Int) : ∀ (l : List S30) (n : Nat) (x : Int), x ∈ placesFrom p n l → ∃ i : Nat, x = ((n + i : Nat) : Int) ∧ i < l.length ∧ (l.getD i z30).f1 = p := by
 intro l; induction l with
 | nil => intro n x hx; cases hx
 | cons j l ih =>
  intro n x hx; rw [placesFrom] at hx; have key : x ∈ placesFrom p (n + 1) l → ∃ i : Nat, x = ((n + i : Nat) : Int) ∧ i < (j :: l).length ∧ ((j :: l).getD i z30).f1 = p := by
   intro hx; obtain ⟨i, h1, h2, h3⟩ := ih (n + 1) x hx; exact ⟨i + 1, by rw [h1]; congr 1; omega, by rw [List.length_cons]; omega, by simpa using h3⟩
  split at hx
  · rcases List.mem_cons.1 hx with rfl | hx
    · exact ⟨0, by simp, by simp, by simpa⟩
    · exact key hx
  · exact key hx
def pickPlace (l : List S30) (pick : Int) : Nat := ((places l (mxp l)).getD (pick % ((places l (mxp l)).length : Int)).toNat 0).toNat
theorem pick_spec (l : List S30) (pick : Int) (h : 0 < (places l (mxp l)).length) : (places l (mxp l)).getD (pick % ((places l (mxp l)).length : Int)).toNat 0 = ((pickPlace l pick : Nat) : Int) ∧ pickPlace l pick < l.length ∧ (l.getD (pickPlace l pick) z30).f1 = mxp l := by
 have h0 := Int.emod_nonneg pick (b := ((places l (mxp l)).length : Int)) (by omega); have h1 := Int.emod_lt_of_pos pick (b := ((places l (mxp l)).length : Int)) (by omega); unfold pickPlace; generalize hq : (pick % ((places l (mxp l)).length : Int)).toNat = q at *; have hql : q < (places l (mxp l)).length := by omega
 have hm : (places l (mxp l)).getD q 0 ∈ places l (mxp l) := by
  rw [GD, GE hql]; exact List.getElem_mem hql
 obtain ⟨i, h2, h3, h4⟩ := placesFrom_mem _ l 0 _ hm; rw [Nat.zero_add] at h2; rw [h2, Int.toNat_natCast]; exact ⟨rfl, h3, h4⟩
theorem takeNo (g B : Nat) (v : Value) (l : List S30) (a p : Int) (w : World) (hs : SetIs 138 171 w B g v l) (hl : l.length ≤ 10000) (h : (places l (mxp l)).length = 0 ∨ mxp l ≤ a) :
 Calls Tryz.prog 79 #[.pointer (some ⟨g, 0, none⟩), O Y a, O Y p] w fun e w' => e = .returned (.tuple #[.agg #[O Y 0, O Y 0, O Y 0], .bool false]) ∧ Below w.heap.size w w' := by
 have HS := ZZ hs; clear hs; have HB := ZZ (best_any g B v l (w.alloc (.cells #[O Y 0, O Y 0, O Y 0] 171)) (HS.out.step ((BR _ _).alloc (NR _) _)) hl); clear hl; have fin : ∀ {w1 : World}, Below (w.alloc (.cells #[O Y 0, O Y 0, O Y 0] 171)).heap.size (w.alloc (.cells #[O Y 0, O Y 0, O Y 0] 171)) w1 → Below w.heap.size w w1 ∧ w1.cell? ⟨w.heap.size, 0, none⟩ = some (O Y 0) ∧ w1.cell? ⟨w.heap.size, 1, none⟩ = some (O Y 0) ∧ w1.cell? ⟨w.heap.size, 2, none⟩ = some (O Y 0) ∧ (∀ o, w1.frozen? ⟨w.heap.size, o, none⟩ = false) ∧ w1.heap[w.heap.size]? = some (.cells #[O Y 0, O Y 0, O Y 0] 171 (0, 0)) := by
  intro w1 hb; have h0 : w1.heap[w.heap.size]? = some (.cells #[O Y 0, O Y 0, O Y 0] 171 (0, 0)) := (hb.block w.heap.size (by simp)).trans (heap_alloc_new w _); exact ⟨((BR _ _).alloc (NR _) _).trans (hb.mono (by simp)), (cell_of_row w1 _ 0 _ 171 (0, 0) h0).trans rfl, (cell_of_row w1 _ 1 _ 171 (0, 0) h0).trans rfl, (cell_of_row w1 _ 2 _ 171 (0, 0) h0).trans rfl, fun o => by simp [World.frozen?, h0], h0⟩
 by_cases h0 : (places l (mxp l)).length = 0
 · have e1 : (((places l (mxp l)).length : Int) == 0) = true := by simp [h0]
   clear h; replace h0 := ZZ h0; go_enter Tryz.func79, Tryz.ntmps79; go_wp2_with fail; refine HB.out.mono ?_; rintro e w1 ⟨va, rfl, hat, hb⟩; obtain ⟨A1, c1, rfl, _⟩ := LRow.slice hat
   obtain ⟨hb2, k0, k1, k2, kf, kb⟩ := fin hb; clear hat hb fin HB; replace hb2 := ZZ hb2; replace kb := ZZ kb; go_wp2_with fail; refine bodyPost_ret (v := .tuple #[.agg #[O Y 0, O Y 0, O Y 0], .bool false]) (results_ct Tryz.results79 _ _ w.heap.size 171 #[O Y 0, O Y 0, O Y 0] (0, 0) _ rfl ((blk_set (blk_set (blk_set kb.out 0 _) 1 _) 2 _).trans rfl) Tryz.underlying171 rfl (by kernel_rfl)) rfl ⟨rfl, ?_⟩; exact ((hb2.out.setCell (NR _) _).setCell (NR _) _).setCell (NR _) _
 · have e1 : (((places l (mxp l)).length : Int) == 0) = false := by simpa using h0
   have e2 : decide (mxp l ≤ a) = true := decide_eq_true (by omega); clear h h0; go_enter Tryz.func79, Tryz.ntmps79; go_wp2_with fail; refine HB.out.mono ?_; rintro e w1 ⟨va, rfl, hat, hb⟩; obtain ⟨A1, c1, rfl, _⟩ := LRow.slice hat
   obtain ⟨hb2, k0, k1, k2, kf, kb⟩ := fin hb; clear hat hb fin HB; replace hb2 := ZZ hb2; replace kb := ZZ kb; go_wp2_with fail; refine bodyPost_ret (v := .tuple #[.agg #[O Y 0, O Y 0, O Y 0], .bool false]) (results_ct Tryz.results79 _ _ w.heap.size 171 #[O Y 0, O Y 0, O Y 0] (0, 0) _ rfl ((blk_set (blk_set (blk_set kb.out 0 _) 1 _) 2 _).trans rfl) Tryz.underlying171 rfl (by kernel_rfl)) rfl ⟨rfl, ?_⟩; exact ((hb2.out.setCell (NR _) _).setCell (NR _) _).setCell (NR _) _
theorem tmod_cases (a n : Int) (hn : 0 < n) : (0 ≤ a.tmod n ∧ a.tmod n = a % n) ∨ (a.tmod n < 0 ∧ a.tmod n + n = a % n) := by
 have h := @Int.tmod_eq_emod a n; have h1 := Int.emod_lt_of_pos a hn; have h0 := Int.emod_nonneg a (b := n) (by omega); split at h
 · left; omega
 · right; omega
theorem idx_facts (i n : Nat) (h : i < n) (hi : i < 10000) : wrap64 ((i : Int) + 1) = (i : Int) + 1 ∧ 0 ≤ (i : Int) + 1 ∧ (i : Int) + 1 ≤ (n : Int) ∧ ((i : Int) + 1).toNat = i + 1 ∧ (i : Int) ≤ (i : Int) + 1 := ⟨by unfold wrap64; omega, by omega, by omega, by omega, by omega⟩
theorem LRow.cut {w : World} {B e size n c i : Nat} {a : Addr} {xs : List Value} (h : LRow w B e size (.slice (some a) n c) n xs) (hi : i ≤ n) : LRow w B e size (.slice (some a) i i) i (xs.take (i * size)) := by
 obtain ⟨h1, h2⟩ := h; have hin : i * size ≤ n * size := Nat.mul_le_mul_right _ hi; refine ⟨by rw [List.length_take]; omega, ?_⟩; rcases h2 with ⟨h3, _⟩ | ⟨g, cap, cur, h3, h4, h5, h6, h7, h8, h9⟩
 · cases h3
 · injection h3 with h3 _ hc
   injection h3 with h3
   subst h3 hc; have hic : i * size ≤ c * size := Nat.mul_le_mul_right _ (by omega); refine .inr ⟨g, i, cur, rfl, h4, h5, NR _, by omega, by omega, ?_⟩; rw [← h9, List.take_take, Nat.min_eq_left hin]
theorem flat_take (l : List S30) (i : Nat) (hi : i ≤ l.length) : (l.flatMap enc3).take (i * 3) = (l.take i).flatMap enc3 := by
 have h := flat_append (l.take i) (l.drop i); rw [List.take_append_drop] at h; have h2 : ((l.take i).flatMap enc3).length = i * 3 := by rw [flat_len, List.length_take, Nat.min_eq_left hi]
 rw [h, ← h2, List.take_left]
theorem flat_drop (l : List S30) (i : Nat) (hi : i ≤ l.length) (j : Nat) : ((l.drop i).flatMap enc3)[j]? = (l.flatMap enc3)[i * 3 + j]? := by
 have h := flat_append (l.take i) (l.drop i); rw [List.take_append_drop] at h; have h2 : ((l.take i).flatMap enc3).length = i * 3 := by rw [flat_len, List.length_take, Nat.min_eq_left hi]
 rw [h, List.getElem?_append_right (by omega), h2, Nat.add_sub_cancel_left]
theorem erase_eq (l : List S30) (i : Nat) : l.eraseIdx i = l.take i ++ l.drop (i + 1) := List.eraseIdx_eq_take_drop_succ l i
theorem take_left {T E : Nat} {w W w1 : World} {B g r : Nat} {v v1 : Value} {l l' : List S30} (HS : SetIs T E w B g v l) (hTE : T ≠ E) (hW : Below w.heap.size w W) (hr : w.heap.size ≤ r) (hr2 : r < W.heap.size) (hg : W.grownBy w1 v.ownBlock) (hrow : LRow w1 B E 3 v1 l'.length (l'.flatMap enc3))
 (hat : v1.ownBlock = v.ownBlock ∨ v1.ownBlock = some W.heap.size) (a b c : Value) : Left T E w ((((w1.setCell ⟨g, 0, none⟩ v1).setCell ⟨r, 0, none⟩ a).setCell ⟨r, 1, none⟩ b).setCell ⟨r, 2, none⟩ c) B g v l' := by
 have hgW : g < W.heap.size := Nat.lt_of_lt_of_le HS.lt hW.size; have hgl := HS.lt; have hb1 : w1.heap[g]? = some (.cells #[v] T (0, 0)) := (hg.block g hgW (HS.ne hTE)).trans ((hW.block g HS.lt).trans HS.blk); have far : ∀ k, k ≠ r → ((((w1.setCell ⟨g, 0, none⟩ v1).setCell ⟨r, 0, none⟩ a).setCell ⟨r, 1, none⟩ b).setCell ⟨r, 2, none⟩ c).heap[k]? = (w1.setCell ⟨g, 0, none⟩ v1).heap[k]? := fun k hk =>
  (BH _ ⟨r, 2, none⟩ c k hk).trans ((BH _ ⟨r, 1, none⟩ b k hk).trans (BH _ ⟨r, 0, none⟩ a k hk))
 have hv : ∀ k, v1.ownBlock = some k → k ≠ g ∧ k ≠ r := by
  intro k hk; obtain ⟨_, _, cur, hc⟩ := hrow.lt k hk; refine ⟨fun e => ?_, fun e => ?_⟩
  · rw [e, hb1] at hc; injection hc with hc
    injection hc with _ hc
    exact hTE hc
  · rcases hat with h | h
    · rw [h] at hk; have := (HS.row.lt k hk).1; omega
    · rw [h] at hk; injection hk with hk
      omega
 have h0 := ((Only.of_below hW g v.ownBlock).trans (Only.of_grown hg g) (.inl rfl)).setCell 0 v1; refine ⟨v1, ⟨HS.lo, (far g (by omega)).trans ((blk_set hb1 0 v1).trans rfl), hrow.move (fun k hk => (far k (hv k hk).2).trans (BH w1 _ _ k (hv k hk).1))⟩, ⟨h0.os, h0.tape, h0.output, by have := h0.size; simpa [World.setCell] using this, fun k hk hkg hkr => (far k (by omega)).trans (h0.block k hk hkg hkr)⟩, ?_⟩; rcases hat with h | h
 · exact .inl h
 · exact .inr ⟨_, h, hW.size⟩
def TakePost (w : World) (B g : Nat) (v : Value) (l : List S30) (i : Nat) (e : Ending) (w' : World) : Prop :=
 e = .returned (.tuple #[.agg #[O Y (l.getD i z30).f0, O Y (l.getD i z30).f1, O Y (l.getD i z30).f2], .bool true]) ∧ Left 138 171 w w' B g v (l.eraseIdx i)
theorem wrap_small (k n : Nat) (h : (k : Int) < n) (hn : n ≤ 10000) : wrap64 (k : Int) = k := by unfold wrap64; omega
theorem lenOk (l : List S30) (i : Nat) (hl : l.length ≤ 10000) (hi : i < l.length) : (i + (l.length - (i + 1))) * 24 ≤ 140737488355328 ∧ (i + 0) * 24 ≤ 140737488355328 := ⟨by omega, by omega⟩
theorem take_cells {T E : Nat} {w w1 w2 : World} {B g b n c : Nat} {l : List S30} (HS : SetIs T E w B g (.slice (some ⟨b, 0, none⟩) n c) l) (hTE : T ≠ E) {z0 z1 z2 : Value} {ty : Nat} (hb : Below (w.alloc (.cells #[z0, z1, z2] ty)).heap.size (w.alloc (.cells #[z0, z1, z2] ty)) w1) {x0 x1 x2 : Value}
 {i m : Nat} (hg : ((w1.alloc (.cells #[x0, x1, x2] ty)).drew).grownBy w2 (Value.slice (some ⟨b, 0, none⟩) i m).ownBlock) (hbw : b < w.heap.size) :
 w2.cell? ⟨g, 0, none⟩ = some (.slice (some ⟨b, 0, none⟩) n c) ∧ w2.frozen? ⟨g, 0, none⟩ = false ∧ ∀ V, (w2.setCell ⟨g, 0, none⟩ V).cell? ⟨w1.heap.size, 0, none⟩ = some x0 ∧ (w2.setCell ⟨g, 0, none⟩ V).cell? ⟨w1.heap.size, 1, none⟩ = some x1 ∧ (w2.setCell ⟨g, 0, none⟩ V).cell? ⟨w1.heap.size, 2, none⟩ = some x2 ∧
  (∀ o, (w2.setCell ⟨g, 0, none⟩ V).frozen? ⟨w.heap.size, o, none⟩ = false) ∧ (w2.setCell ⟨g, 0, none⟩ V).heap[w.heap.size]? = some (.cells #[z0, z1, z2] ty (0, 0)) ∧ (w2.setCell ⟨g, 0, none⟩ V).cell? ⟨w.heap.size, 0, none⟩ = some z0 ∧ (w2.setCell ⟨g, 0, none⟩ V).cell? ⟨w.heap.size, 1, none⟩ = some z1 ∧ (w2.setCell ⟨g, 0, none⟩ V).cell? ⟨w.heap.size, 2, none⟩ = some z2 := by
 have hsz : w.heap.size < w1.heap.size := by have := hb.size; simp at this; omega
 have hglt := HS.lt; have hgb : g ≠ b := fun e => HS.ne hTE (by rw [e]; rfl); have step : ∀ k, k < w1.heap.size → k ≠ b → w2.heap[k]? = w1.heap[k]? := fun k hk hkb => (hg.block k (by simp; omega) (fun e => hkb (by injection e))).trans (Below.heap_alloc w1 _ k hk); have h1 : w2.heap[g]? = some (.cells #[.slice (some ⟨b, 0, none⟩) n c] T (0, 0)) := (step g (by omega) hgb).trans ((hb.block g (by simp; omega)).trans ((Below.heap_alloc w _ g hglt).trans HS.blk)); have h2 : w2.heap[w.heap.size]? = some (.cells #[z0, z1, z2] ty (0, 0)) := (step _ hsz (by omega)).trans ((hb.block _ (by simp)).trans (heap_alloc_new w _)); have h3 : w2.heap[w1.heap.size]? = some (.cells #[x0, x1, x2] ty (0, 0)) := (hg.block _ (by simp) (fun e => absurd (show w1.heap.size = b from Option.some.inj e) (by omega))).trans (heap_alloc_new w1 _); refine ⟨(cell_of_row w2 g 0 _ T (0, 0) h1).trans rfl, by simp [World.frozen?, h1], fun V => ?_⟩; have h2' := (BH w2 ⟨g, 0, none⟩ V w.heap.size (by show w.heap.size ≠ g; omega)).trans h2; have h3' := (BH w2 ⟨g, 0, none⟩ V w1.heap.size (by show w1.heap.size ≠ g; omega)).trans h3; exact ⟨(cell_of_row _ _ 0 _ ty (0, 0) h3').trans rfl, (cell_of_row _ _ 1 _ ty (0, 0) h3').trans rfl, (cell_of_row _ _ 2 _ ty (0, 0) h3').trans rfl, fun o => by unfold World.frozen?; rw [h2']; simp, h2',
  (cell_of_row _ _ 0 _ ty (0, 0) h2').trans rfl, (cell_of_row _ _ 1 _ ty (0, 0) h2').trans rfl, (cell_of_row _ _ 2 _ ty (0, 0) h2').trans rfl⟩
theorem takeYes (g B : Nat) (v : Value) (l : List S30) (a p : Int) (w : World) (hs : SetIs 138 171 w B g v l) (hB : B ≤ w.heap.size) (hl : l.length ≤ 10000) (h0 : 0 < (places l (mxp l)).length) (ha : a < mxp l) :
 Calls Tryz.prog 79 #[.pointer (some ⟨g, 0, none⟩), O Y a, O Y p] w (TakePost w B g v l (pickPlace l p)) := by
 have HS := ZZ hs; have HL := ZZ hl; have HB0 := ZZ hB; clear hs hB; have HB := ZZ (best_any g B v l (w.alloc (.cells #[O Y 0, O Y 0, O Y 0] 171)) (HS.out.step ((BR _ _).alloc (NR _) _)) hl); obtain ⟨q1, q2, q3⟩ := pick_spec l p h0; have hm := tmod_cases p ((places l (mxp l)).length : Int) (by omega); have hn1 := Int.emod_nonneg p (b := ((places l (mxp l)).length : Int)) (by omega); have hn2 := Int.emod_lt_of_pos p (b := ((places l (mxp l)).length : Int)) (by omega); have hnl : (places l (mxp l)).length ≤ 10000 := Nat.le_trans (placesFrom_len _ l 0) hl; generalize hR : places l (mxp l) = R at *; generalize hi : pickPlace l p = i at *; have e1 : ((R.length : Int) == 0) = false := by
  rw [beq_eq_false_iff_ne]; omega
 have e2 : decide (mxp l ≤ a) = false := decide_eq_false (by omega); replace hR := ZZ hR; replace hi := ZZ hi; replace q1 := ZZ q1; replace q3 := ZZ q3; replace ha := ZZ ha; obtain ⟨kk, hkk⟩ : ∃ kk : Nat, p % (R.length : Int) = (kk : Int) := ⟨_, (Int.toNat_of_nonneg hn1).symm⟩
 replace q1 := ZZ (by have := q1.out; rwa [hkk, Int.toNat_natCast] at this : R.getD kk 0 = (i : Int)); have hkn : (kk : Int) < (R.length : Int) := by omega
 rcases hm with ⟨m0, m1⟩ | ⟨m0, m1⟩
 · have e3 : decide (p.tmod (R.length : Int) < 0) = false := decide_eq_false (by omega); rw [hkk] at m1 hn1 hn2; clear hkk m0; go_enter Tryz.func79, Tryz.ntmps79; go_wp2_with fail; refine HB.out.mono ?_; rintro e w1 ⟨va, rfl, hat, hb⟩; rw [hR.out] at hat
   obtain ⟨A1, c1, rfl, _⟩ := LRow.slice hat
   obtain ⟨b1, rfl, hk1⟩ : ∃ b1, A1 = some ⟨b1, 0, none⟩ ∧ w1.cell? ⟨b1, kk, none⟩ = some (O Y (i : Int)) := by
    rcases hat.2 with ⟨h3, h4⟩ | ⟨b1, cap, cur, h3, _⟩
    · omega
    · injection h3 with h3 _ _
      subst h3; refine ⟨b1, rfl, ?_⟩; have := LRow.cell hat kk (O Y (i : Int)) (by rw [List.getElem?_map, ← q1.out, GD, GE (by omega)]; rfl); rwa [Tp.add_plain] at this
   have hs1 : SetIs 138 171 w1 B g v l := (HS.out.step ((BR _ _).alloc (NR _) _)).step hb; obtain ⟨A, c, rfl, hlc⟩ := hs1.slice; obtain ⟨b, rfl, c0, c1_, c2_⟩ := hs1.elem i q2; have hcg := hs1.cell; have hbl : b < w1.heap.size := World.block_lt_of_cell? w1 _ c0; have hg1 := hs1.lt; generalize hx : l.getD i z30 = x at *; replace hx := ZZ hx; have hbb : ∀ (w1 : World), Below (w.alloc (.cells #[O Y 0, O Y 0, O Y 0] 171)).heap.size (w.alloc (.cells #[O Y 0, O Y 0, O Y 0] 171)) w1 → Below w.heap.size w w1 := fun w1 hb => ((BR _ _).alloc (NR _) _).trans (hb.mono (by simp)); have hbs : ∀ (w1 : World), Below (w.alloc (.cells #[O Y 0, O Y 0, O Y 0] 171)).heap.size (w.alloc (.cells #[O Y 0, O Y 0, O Y 0] 171)) w1 → w.heap.size < w1.heap.size := fun w1 hb => Nat.lt_of_lt_of_le (by simp) hb.size; replace hbb := ZZ hbb; replace hbs := ZZ hbs; have hir : i < 10000 := Nat.lt_of_lt_of_le q2 hl; have hic : i + 1 ≤ c := Nat.le_trans q2 hlc; have hic' : i ≤ c := Nat.le_of_succ_le hic; replace hat := ZZ hat
   replace hb := ZZ hb; replace hs1 := ZZ hs1; have q2i : (i : Int) < (l.length : Int) := by omega
   go_wp2_with fail; rcases Nat.eq_or_lt_of_le hic with hcc | hcc
   · subst hcc; obtain ⟨x1, x2, x3, x4, x5⟩ := idx_facts i l.length q2 hir; refine st 19 (S := fun w' => w'.cell? ⟨g, 0, none⟩ = some (.slice (some ⟨b, 0, none⟩) l.length (i + 1))) (ds := [15, 18]) (by go_simp) (fun hHeld => ?_); refine pq 0 ?_; refine pq 1 ?_; refine pq 2 ?_; refine pq 3 ?_; refine tk 4 hHeld ?_; refine pq 5 ?_; refine pq 6 ?_; refine pq 7 ?_; refine pq 8 ?_; refine pq 9 ?_; refine pq 10 ?_; refine tk 11 hHeld ?_; refine pq 12 ?_; refine pq 13 ?_; refine pq 14 ?_; refine rg2 15 (fun K hK => ?_); refine step_append_loose _ B (by rfl) (.tmp 58) (.tmp 65) 136 171 _ 3 24 rfl Tryz.underlying136 info30 rfl (by decide) (by decide) (.slice (some ⟨b, 0, none⟩) i i) i ((l.take i).flatMap enc3) ((l.drop (i + 1)).flatMap enc3) _ _ _ rfl rfl ?nl1 (flat_one _) ?row1 ?src1 ?low1 ?len1 ?go1; case nl1 => rw [flat_len, List.length_drop]; rw [Nat.sub_eq_zero_of_le hlc]
     case row1 => exact (by have h := LRow.cut hs1.out.row (Nat.le_of_lt q2); rw [flat_take l i (Nat.le_of_lt q2)] at h; exact h.move (fun k hk => (Below.heap_alloc w1 _ k (hs1.out.row.lt k hk).1)))
     case src1 => exact .inr ⟨_, rfl, fun j u hj => by rw [List.drop_of_length_le hlc] at hj; simp at hj⟩
     case low1 => exact Nat.le_trans HB0.out (Nat.le_trans (hbb.out _ hb.out).size (by simp))
     case len1 => have h := lenOk l i HL.out q2; first | exact h.1 | exact h.2
     case go1 =>
      intro v1 w2 hrow hg hr1; obtain ⟨A2, c2, rfl, _⟩ := hrow.slice; have hWb : Below w.heap.size w ((w1.alloc (.cells #[O Y x.f0, O Y x.f1, O Y x.f2] 171)).drew) := ((hbb.out _ hb.out).alloc (hbb.out _ hb.out).size _).drew; have hsz := (hbb.out _ hb.out).size; have hw1 : w.heap.size < w1.heap.size := hbs.out _ hb.out; have hrw : LRow w2 B 171 3 (.slice A2 (i + 0) c2) (l.eraseIdx i).length ((l.eraseIdx i).flatMap enc3) := by rw [erase_eq, flat_append, List.length_append, List.length_take, List.length_drop, Nat.min_eq_left (Nat.le_of_lt q2)]; first | exact hrow | (rw [Nat.sub_eq_zero_of_le hlc]; exact hrow)
      have hfin := take_left (r := w.heap.size) HS.out (by decide) hWb (NR _) (by simp; omega) hg hrw hr1 (O Y x.f0) (O Y x.f1) (O Y x.f2); have hbw : b < w.heap.size := (HS.out.row.lt b rfl).1; obtain ⟨g0, g1, hV⟩ := take_cells HS.out (by decide) hb.out hg hbw; replace hfin := ZZ hfin; replace hV := ZZ hV; clear hrow hg hr1 hWb hrw; refine hK.out _ _ ?_; clear hK K; refine nm ?_; refine pq 16 ?_; refine pq 17 ?_; refine rg2 18 (fun K hK => ?_); refine skip_ (w1 := ?_) (by rfl) rfl ?_ ?_; rotate_left
      · go_simp; rfl
      refine hK.out _ _ ?_; clear hK K; refine dn ?_; obtain ⟨j0, j1, j2, r1, r2, r3, r4, r5⟩ := hV.out (.slice A2 (i) c2); replace r2 := ZZ r2; clear hV; go_wp2_with fail; refine bodyPost_ret (v := .tuple #[.agg #[O Y x.f0, O Y x.f1, O Y x.f2], .bool true]) (results_ct Tryz.results79 _ _ w.heap.size 171 #[O Y x.f0, O Y x.f1, O Y x.f2] (0, 0) _ rfl ((blk_set (blk_set (blk_set r2.out 0 _) 1 _) 2 _).trans rfl) Tryz.underlying171 rfl (by kernel_rfl)) rfl (And.intro ?_ ?_)
      · rw [hx.out]
      · exact hfin.out
   · have hcn : ¬ c = i + 1 := Nat.ne_of_gt hcc; obtain ⟨x1, x2, x3, x4, x5⟩ := idx_facts i l.length q2 hir; refine st 19 (S := fun w' => w'.cell? ⟨g, 0, none⟩ = some (.slice (some ⟨b, 0, none⟩) l.length c)) (ds := [15, 18]) (by go_simp) (fun hHeld => ?_); refine pq 0 ?_; refine pq 1 ?_; refine pq 2 ?_; refine pq 3 ?_; refine tk 4 hHeld ?_; refine pq 5 ?_; refine pq 6 ?_; refine pq 7 ?_; refine pq 8 ?_; refine pq 9 ?_; refine pq 10 ?_; refine tk 11 hHeld ?_; refine pq 12 ?_; refine pq 13 ?_; refine pq 14 ?_; refine rg2 15 (fun K hK => ?_); refine step_append_loose _ B (by rfl) (.tmp 58) (.tmp 65) 136 171 _ 3 24 rfl Tryz.underlying136 info30 rfl (by decide) (by decide) (.slice (some ⟨b, 0, none⟩) i i) i ((l.take i).flatMap enc3) ((l.drop (i + 1)).flatMap enc3) _ _ _ rfl rfl ?nl2 (flat_one _) ?row2 ?src2 ?low2 ?len2 ?go2; case nl2 => rw [flat_len, List.length_drop]
     case row2 => exact (by have h := LRow.cut hs1.out.row (Nat.le_of_lt q2); rw [flat_take l i (Nat.le_of_lt q2)] at h; exact h.move (fun k hk => (Below.heap_alloc w1 _ k (hs1.out.row.lt k hk).1)))
     case src2 => exact .inr ⟨_, rfl, fun j u hj => by rw [flat_drop l (i + 1) q2] at hj; have h := hs1.out.row.cell _ u hj; rw [Tp.add_plain] at h; rw [add_at]; exact (((BR _ _).alloc (NR _) _).drew.cell (p := ⟨b, (i + 1) * 3 + j, none⟩) hbl).trans h⟩
     case low2 => exact Nat.le_trans HB0.out (Nat.le_trans (hbb.out _ hb.out).size (by simp))
     case len2 => have h := lenOk l i HL.out q2; first | exact h.1 | exact h.2
     case go2 =>
      intro v1 w2 hrow hg hr1; obtain ⟨A2, c2, rfl, _⟩ := hrow.slice; have hWb : Below w.heap.size w ((w1.alloc (.cells #[O Y x.f0, O Y x.f1, O Y x.f2] 171)).drew) := ((hbb.out _ hb.out).alloc (hbb.out _ hb.out).size _).drew; have hsz := (hbb.out _ hb.out).size; have hw1 : w.heap.size < w1.heap.size := hbs.out _ hb.out; have hrw : LRow w2 B 171 3 (.slice A2 (i + (l.length - (i + 1))) c2) (l.eraseIdx i).length ((l.eraseIdx i).flatMap enc3) := by rw [erase_eq, flat_append, List.length_append, List.length_take, List.length_drop, Nat.min_eq_left (Nat.le_of_lt q2)]; first | exact hrow | (rw [Nat.sub_eq_zero_of_le hlc]; exact hrow)
      have hfin := take_left (r := w.heap.size) HS.out (by decide) hWb (NR _) (by simp; omega) hg hrw hr1 (O Y x.f0) (O Y x.f1) (O Y x.f2); have hbw : b < w.heap.size := (HS.out.row.lt b rfl).1; obtain ⟨g0, g1, hV⟩ := take_cells HS.out (by decide) hb.out hg hbw; replace hfin := ZZ hfin; replace hV := ZZ hV; clear hrow hg hr1 hWb hrw; refine hK.out _ _ ?_; clear hK K; refine nm ?_; refine pq 16 ?_; refine pq 17 ?_; refine rg2 18 (fun K hK => ?_); refine skip_ (w1 := ?_) (by rfl) rfl ?_ ?_; rotate_left
      · go_simp; rfl
      refine hK.out _ _ ?_; clear hK K; refine dn ?_; obtain ⟨j0, j1, j2, r1, r2, r3, r4, r5⟩ := hV.out (.slice A2 (i + (l.length - (i + 1))) c2); replace r2 := ZZ r2; clear hV; go_wp2_with fail; refine bodyPost_ret (v := .tuple #[.agg #[O Y x.f0, O Y x.f1, O Y x.f2], .bool true]) (results_ct Tryz.results79 _ _ w.heap.size 171 #[O Y x.f0, O Y x.f1, O Y x.f2] (0, 0) _ rfl ((blk_set (blk_set (blk_set r2.out 0 _) 1 _) 2 _).trans rfl) Tryz.underlying171 rfl (by kernel_rfl)) rfl (And.intro ?_ ?_)
      · rw [hx.out]
      · exact hfin.out
 · have e3 : decide (p.tmod (R.length : Int) < 0) = true := decide_eq_true m0; rw [hkk] at m1 hn1 hn2; have m2 : wrap64 (p.tmod (R.length : Int) + (R.length : Int)) = (kk : Int) := by rw [m1]; exact wrap_small kk R.length hkn hnl
   clear hkk m0; go_enter Tryz.func79, Tryz.ntmps79; go_wp2_with fail; refine HB.out.mono ?_; rintro e w1 ⟨va, rfl, hat, hb⟩; rw [hR.out] at hat
   obtain ⟨A1, c1, rfl, _⟩ := LRow.slice hat
   obtain ⟨b1, rfl, hk1⟩ : ∃ b1, A1 = some ⟨b1, 0, none⟩ ∧ w1.cell? ⟨b1, kk, none⟩ = some (O Y (i : Int)) := by
    rcases hat.2 with ⟨h3, h4⟩ | ⟨b1, cap, cur, h3, _⟩
    · omega
    · injection h3 with h3 _ _
      subst h3; refine ⟨b1, rfl, ?_⟩; have := LRow.cell hat kk (O Y (i : Int)) (by rw [List.getElem?_map, ← q1.out, GD, GE (by omega)]; rfl); rwa [Tp.add_plain] at this
   have hs1 : SetIs 138 171 w1 B g v l := (HS.out.step ((BR _ _).alloc (NR _) _)).step hb; obtain ⟨A, c, rfl, hlc⟩ := hs1.slice; obtain ⟨b, rfl, c0, c1_, c2_⟩ := hs1.elem i q2; have hcg := hs1.cell; have hbl : b < w1.heap.size := World.block_lt_of_cell? w1 _ c0; have hg1 := hs1.lt; generalize hx : l.getD i z30 = x at *; replace hx := ZZ hx; have hbb : ∀ (w1 : World), Below (w.alloc (.cells #[O Y 0, O Y 0, O Y 0] 171)).heap.size (w.alloc (.cells #[O Y 0, O Y 0, O Y 0] 171)) w1 → Below w.heap.size w w1 := fun w1 hb => ((BR _ _).alloc (NR _) _).trans (hb.mono (by simp)); have hbs : ∀ (w1 : World), Below (w.alloc (.cells #[O Y 0, O Y 0, O Y 0] 171)).heap.size (w.alloc (.cells #[O Y 0, O Y 0, O Y 0] 171)) w1 → w.heap.size < w1.heap.size := fun w1 hb => Nat.lt_of_lt_of_le (by simp) hb.size; replace hbb := ZZ hbb; replace hbs := ZZ hbs; have hir : i < 10000 := Nat.lt_of_lt_of_le q2 hl; have hic : i + 1 ≤ c := Nat.le_trans q2 hlc; have hic' : i ≤ c := Nat.le_of_succ_le hic; replace hat := ZZ hat
   replace hb := ZZ hb; replace hs1 := ZZ hs1; have q2i : (i : Int) < (l.length : Int) := by omega
   go_wp2_with fail; rcases Nat.eq_or_lt_of_le hic with hcc | hcc
   · subst hcc; obtain ⟨x1, x2, x3, x4, x5⟩ := idx_facts i l.length q2 hir; refine st 19 (S := fun w' => w'.cell? ⟨g, 0, none⟩ = some (.slice (some ⟨b, 0, none⟩) l.length (i + 1))) (ds := [15, 18]) (by go_simp) (fun hHeld => ?_); refine pq 0 ?_; refine pq 1 ?_; refine pq 2 ?_; refine pq 3 ?_; refine tk 4 hHeld ?_; refine pq 5 ?_; refine pq 6 ?_; refine pq 7 ?_; refine pq 8 ?_; refine pq 9 ?_; refine pq 10 ?_; refine tk 11 hHeld ?_; refine pq 12 ?_; refine pq 13 ?_; refine pq 14 ?_; refine rg2 15 (fun K hK => ?_); refine step_append_loose _ B (by rfl) (.tmp 58) (.tmp 65) 136 171 _ 3 24 rfl Tryz.underlying136 info30 rfl (by decide) (by decide) (.slice (some ⟨b, 0, none⟩) i i) i ((l.take i).flatMap enc3) ((l.drop (i + 1)).flatMap enc3) _ _ _ rfl rfl ?nl3 (flat_one _) ?row3 ?src3 ?low3 ?len3 ?go3; case nl3 => rw [flat_len, List.length_drop]; rw [Nat.sub_eq_zero_of_le hlc]
     case row3 => exact (by have h := LRow.cut hs1.out.row (Nat.le_of_lt q2); rw [flat_take l i (Nat.le_of_lt q2)] at h; exact h.move (fun k hk => (Below.heap_alloc w1 _ k (hs1.out.row.lt k hk).1)))
     case src3 => exact .inr ⟨_, rfl, fun j u hj => by rw [List.drop_of_length_le hlc] at hj; simp at hj⟩
     case low3 => exact Nat.le_trans HB0.out (Nat.le_trans (hbb.out _ hb.out).size (by simp))
     case len3 => have h := lenOk l i HL.out q2; first | exact h.1 | exact h.2
     case go3 =>
      intro v1 w2 hrow hg hr1; obtain ⟨A2, c2, rfl, _⟩ := hrow.slice; have hWb : Below w.heap.size w ((w1.alloc (.cells #[O Y x.f0, O Y x.f1, O Y x.f2] 171)).drew) := ((hbb.out _ hb.out).alloc (hbb.out _ hb.out).size _).drew; have hsz := (hbb.out _ hb.out).size; have hw1 : w.heap.size < w1.heap.size := hbs.out _ hb.out; have hrw : LRow w2 B 171 3 (.slice A2 (i + 0) c2) (l.eraseIdx i).length ((l.eraseIdx i).flatMap enc3) := by rw [erase_eq, flat_append, List.length_append, List.length_take, List.length_drop, Nat.min_eq_left (Nat.le_of_lt q2)]; first | exact hrow | (rw [Nat.sub_eq_zero_of_le hlc]; exact hrow)
      have hfin := take_left (r := w.heap.size) HS.out (by decide) hWb (NR _) (by simp; omega) hg hrw hr1 (O Y x.f0) (O Y x.f1) (O Y x.f2); have hbw : b < w.heap.size := (HS.out.row.lt b rfl).1; obtain ⟨g0, g1, hV⟩ := take_cells HS.out (by decide) hb.out hg hbw; replace hfin := ZZ hfin; replace hV := ZZ hV; clear hrow hg hr1 hWb hrw; refine hK.out _ _ ?_; clear hK K; refine nm ?_; refine pq 16 ?_; refine pq 17 ?_; refine rg2 18 (fun K hK => ?_); refine skip_ (w1 := ?_) (by rfl) rfl ?_ ?_; rotate_left
      · go_simp; rfl
      refine hK.out _ _ ?_; clear hK K; refine dn ?_; obtain ⟨j0, j1, j2, r1, r2, r3, r4, r5⟩ := hV.out (.slice A2 (i) c2); replace r2 := ZZ r2; clear hV; go_wp2_with fail; refine bodyPost_ret (v := .tuple #[.agg #[O Y x.f0, O Y x.f1, O Y x.f2], .bool true]) (results_ct Tryz.results79 _ _ w.heap.size 171 #[O Y x.f0, O Y x.f1, O Y x.f2] (0, 0) _ rfl ((blk_set (blk_set (blk_set r2.out 0 _) 1 _) 2 _).trans rfl) Tryz.underlying171 rfl (by kernel_rfl)) rfl (And.intro ?_ ?_)
      · rw [hx.out]
      · exact hfin.out
   · have hcn : ¬ c = i + 1 := Nat.ne_of_gt hcc; obtain ⟨x1, x2, x3, x4, x5⟩ := idx_facts i l.length q2 hir; refine st 19 (S := fun w' => w'.cell? ⟨g, 0, none⟩ = some (.slice (some ⟨b, 0, none⟩) l.length c)) (ds := [15, 18]) (by go_simp) (fun hHeld => ?_); refine pq 0 ?_; refine pq 1 ?_; refine pq 2 ?_; refine pq 3 ?_; refine tk 4 hHeld ?_; refine pq 5 ?_; refine pq 6 ?_; refine pq 7 ?_; refine pq 8 ?_; refine pq 9 ?_; refine pq 10 ?_; refine tk 11 hHeld ?_; refine pq 12 ?_; refine pq 13 ?_; refine pq 14 ?_; refine rg2 15 (fun K hK => ?_); refine step_append_loose _ B (by rfl) (.tmp 58) (.tmp 65) 136 171 _ 3 24 rfl Tryz.underlying136 info30 rfl (by decide) (by decide) (.slice (some ⟨b, 0, none⟩) i i) i ((l.take i).flatMap enc3) ((l.drop (i + 1)).flatMap enc3) _ _ _ rfl rfl ?nl4 (flat_one _) ?row4 ?src4 ?low4 ?len4 ?go4; case nl4 => rw [flat_len, List.length_drop]
     case row4 => exact (by have h := LRow.cut hs1.out.row (Nat.le_of_lt q2); rw [flat_take l i (Nat.le_of_lt q2)] at h; exact h.move (fun k hk => (Below.heap_alloc w1 _ k (hs1.out.row.lt k hk).1)))
     case src4 => exact .inr ⟨_, rfl, fun j u hj => by rw [flat_drop l (i + 1) q2] at hj; have h := hs1.out.row.cell _ u hj; rw [Tp.add_plain] at h; rw [add_at]; exact (((BR _ _).alloc (NR _) _).drew.cell (p := ⟨b, (i + 1) * 3 + j, none⟩) hbl).trans h⟩
     case low4 => exact Nat.le_trans HB0.out (Nat.le_trans (hbb.out _ hb.out).size (by simp))
     case len4 => have h := lenOk l i HL.out q2; first | exact h.1 | exact h.2
     case go4 =>
      intro v1 w2 hrow hg hr1; obtain ⟨A2, c2, rfl, _⟩ := hrow.slice; have hWb : Below w.heap.size w ((w1.alloc (.cells #[O Y x.f0, O Y x.f1, O Y x.f2] 171)).drew) := ((hbb.out _ hb.out).alloc (hbb.out _ hb.out).size _).drew; have hsz := (hbb.out _ hb.out).size; have hw1 : w.heap.size < w1.heap.size := hbs.out _ hb.out; have hrw : LRow w2 B 171 3 (.slice A2 (i + (l.length - (i + 1))) c2) (l.eraseIdx i).length ((l.eraseIdx i).flatMap enc3) := by rw [erase_eq, flat_append, List.length_append, List.length_take, List.length_drop, Nat.min_eq_left (Nat.le_of_lt q2)]; first | exact hrow | (rw [Nat.sub_eq_zero_of_le hlc]; exact hrow)
      have hfin := take_left (r := w.heap.size) HS.out (by decide) hWb (NR _) (by simp; omega) hg hrw hr1 (O Y x.f0) (O Y x.f1) (O Y x.f2); have hbw : b < w.heap.size := (HS.out.row.lt b rfl).1; obtain ⟨g0, g1, hV⟩ := take_cells HS.out (by decide) hb.out hg hbw; replace hfin := ZZ hfin; replace hV := ZZ hV; clear hrow hg hr1 hWb hrw; refine hK.out _ _ ?_; clear hK K; refine nm ?_; refine pq 16 ?_; refine pq 17 ?_; refine rg2 18 (fun K hK => ?_); refine skip_ (w1 := ?_) (by rfl) rfl ?_ ?_; rotate_left
      · go_simp; rfl
      refine hK.out _ _ ?_; clear hK K; refine dn ?_; obtain ⟨j0, j1, j2, r1, r2, r3, r4, r5⟩ := hV.out (.slice A2 (i + (l.length - (i + 1))) c2); replace r2 := ZZ r2; clear hV; go_wp2_with fail; refine bodyPost_ret (v := .tuple #[.agg #[O Y x.f0, O Y x.f1, O Y x.f2], .bool true]) (results_ct Tryz.results79 _ _ w.heap.size 171 #[O Y x.f0, O Y x.f1, O Y x.f2] (0, 0) _ rfl ((blk_set (blk_set (blk_set r2.out 0 _) 1 _) 2 _).trans rfl) Tryz.underlying171 rfl (by kernel_rfl)) rfl (And.intro ?_ ?_)
      · rw [hx.out]
      · exact hfin.out
end Go.Proofs.YtoopeamoejmjeaaGreat.Rd
namespace Go.Proofs.YtoopeamoejmjeaaGreat.Tm
open RowKit YtoopeamoejmjeaaGreatW.PrintWords YtoopeamoejmjeaaGreatW.PrintLast YtoopeamoejmjeaaGreatW.PrintMore Tm
open Rd (SetIs z30 S30 enc3 Only mxp places pickPlace)
section
theorem perm_map_inv {α β : Type} {f : α → β} : ∀ {l : List α} {M : List β}, (l.map f).Perm M → ∃ M' : List α, l.Perm M' ∧ M'.map f = M := by
 intro l M; induction M generalizing l with
 | nil => intro h; have := h.eq_nil; rw [List.map_eq_nil_iff] at this; exact ⟨[], by rw [this], rfl⟩
 | cons b M ih =>
  intro h; have hb : b ∈ l.map f := h.mem_iff.2 List.mem_cons_self; obtain ⟨a, ha, rfl⟩ := List.mem_map.1 hb; obtain ⟨s, t, rfl⟩ := List.append_of_mem ha; have h2 : ((s ++ t).map f).Perm M := by
   have h3 : ((s ++ a :: t).map f).Perm (f a :: (s ++ t).map f) := (List.perm_middle (l₁ := s) (l₂ := t) (a := a)).map f; exact (h3.symm.trans h).cons_inv
  obtain ⟨M', h4, rfl⟩ := ih h2; exact ⟨a :: M', (List.perm_middle).trans (h4.cons a), rfl⟩
theorem Has.perm {w0 W : World} {L M : List Asn} (h : Has w0 W L) (hp : L.Perm M) : Has w0 W M := by
 obtain ⟨L', rfl, h1, h2, h3⟩ := h; obtain ⟨M', hpm, rfl⟩ := perm_map_inv hp; exact ⟨M', rfl, h1, fun x hx => h2 x (hpm.mem_iff.2 hx), (hpm.pairwise_iff (fun h => Ent.apart_symm h)).1 h3⟩
theorem Has.turnAdd {w0 W W1 : World} {L1 L2 : List Asn} {a b c : Asn} (h : Has w0 W (L1 ++ a :: L2)) (hT : ∀ S, a.P S W → b.P S W1 ∧ Keeps S W W1) (T : List Nat) (hT2 : ∀ k ∈ T, W.heap.size ≤ k) (hc : c.P T W1) : Has w0 W1 (c :: (L1 ++ b :: L2)) := by
 obtain ⟨L', hm, h1, h2, h3⟩ := h; obtain ⟨M1, M', rfl, rfl, hm2⟩ := List.map_eq_append_iff.1 hm; obtain ⟨x, M2, rfl, rfl, rfl⟩ := List.map_eq_cons_iff.1 hm2; have hxm : x ∈ M1 ++ x :: M2 := by simp
 obtain ⟨hb', hk⟩ := hT _ (h2 x hxm).1; have ap : ∀ y, y ∈ M1 ∨ y ∈ M2 → x.apart y := by
  intro y hy; rw [List.pairwise_append, List.pairwise_cons] at h3; rcases hy with hy | hy
  · exact Ent.apart_symm (h3.2.2 y hy x (by simp))
  · exact h3.2.1.1 y hy
 have far : ∀ y, y ∈ M1 ∨ y ∈ M2 → y.is W1 ∧ (∀ k ∈ y.own, w0.heap.size ≤ k) ∧ (∀ k ∈ y.own, k < W.heap.size) := by
  intro y hy; have hym : y ∈ M1 ++ x :: M2 := by rcases hy with hy | hy <;> simp [hy]
  have hyi := h2 y hym; have hlv := y.asn.live _ _ hyi.1; exact ⟨y.asn.stable _ _ _ hyi.1 (fun k hk2 => hk.block k (hlv k hk2) (fun hx => ap y hy k hx hk2)), hyi.2, hlv⟩
 have hxl := x.asn.live _ _ (h2 x hxm).1; refine ⟨⟨c, T⟩ :: (M1 ++ ⟨b, x.own⟩ :: M2), by simp, ⟨hk.os.trans h1.os, hk.tape.trans h1.tape, hk.output.trans h1.output, Nat.le_trans h1.size hk.size, fun k hk2 => (hk.block k (Nat.lt_of_lt_of_le hk2 h1.size) (fun hx => by have := (h2 x hxm).2 k hx; omega)).trans (h1.block k hk2)⟩, fun y hy => ?_, ?_⟩
 · rcases List.mem_cons.1 hy with rfl | hy
   · exact ⟨hc, fun k hk2 => Nat.le_trans h1.size (hT2 k hk2)⟩
   · rcases List.mem_append.1 hy with hy | hy
     · exact ⟨(far y (.inl hy)).1, (far y (.inl hy)).2.1⟩
     · rcases List.mem_cons.1 hy with rfl | hy
       · exact ⟨hb', (h2 x hxm).2⟩
       · exact ⟨(far y (.inr hy)).1, (far y (.inr hy)).2.1⟩
 · rw [List.pairwise_cons]; refine ⟨fun y hy k hk2 hky => ?_, ?_⟩
   · have := hT2 k hk2; rcases List.mem_append.1 hy with hy | hy
     · have := (far y (.inl hy)).2.2 k hky; omega
     · rcases List.mem_cons.1 hy with rfl | hy
       · have := hxl k hky; omega
       · have := (far y (.inr hy)).2.2 k hky; omega
   · rw [List.pairwise_append, List.pairwise_cons] at h3 ⊢; refine ⟨h3.1, ⟨fun y hy => ap y (.inr hy), h3.2.1.2⟩, fun p hp q hq => ?_⟩; rcases List.mem_cons.1 hq with rfl | hq
     · exact Ent.apart_symm (ap p (.inl hp))
     · exact h3.2.2 p hp q (by simp [hq])
def nilA : Asn where
 P S _ := S = []
 stable := fun _ _ _ h _ => h
 live := by rintro S W rfl k hk; cases hk
theorem set_split {α : Type} {L : List α} {k : Nat} {a : α} (h : L[k]? = some a) : ∃ L1 L2, L = L1 ++ a :: L2 ∧ ∀ b, L.set k b = L1 ++ b :: L2 := by
 obtain ⟨hk, rfl⟩ := GI.1 h; exact ⟨L.take k, L.drop (k + 1), by rw [← List.drop_eq_getElem_cons hk, List.take_append_drop], fun b => by rw [List.set_eq_take_append_cons_drop, if_pos hk]⟩
section
variable {w0 W W1 : World} {L : List Asn} {k g o : Nat} {a b c : Asn} {t : TypeId} {cs : Array Value}
theorem Has.getK (h : Has w0 W L) (hk : L[k]? = some a) : ∃ S, a.P S W ∧ ∀ j ∈ S, w0.heap.size ≤ j := h.get (LM hk)
theorem Has.turnK (h : Has w0 W L) (hk : L[k]? = some a) (hT : ∀ S, a.P S W → ∃ S', b.P S' W1 ∧ Keeps S W W1 ∧ ∀ j ∈ S', j ∈ S ∨ W.heap.size ≤ j) : Has w0 W1 (L.set k b) := by
 obtain ⟨L1, L2, rfl, e⟩ := set_split hk; rw [e]; exact h.turn hT
theorem Has.push (h : Has w0 W L) (hb : Below W.heap.size W W1) (S : List Nat) (hS : ∀ j ∈ S, W.heap.size ≤ j) (ha : a.P S W1) : Has w0 W1 (L ++ [a]) := Has.perm (h.add hb S hS ha) (List.perm_append_singleton a L).symm
theorem Has.turnPush (h : Has w0 W L) (hk : L[k]? = some a) (hT : ∀ S, a.P S W → b.P S W1 ∧ Keeps S W W1) (T : List Nat) (hT2 : ∀ j ∈ T, W.heap.size ≤ j) (hc : c.P T W1) : Has w0 W1 (L.set k b ++ [c]) := by
 obtain ⟨L1, L2, rfl, e⟩ := set_split hk; rw [e]; exact Has.perm (h.turnAdd hT T hT2 hc) (List.perm_append_singleton c _).symm
theorem Has.push2 (h : Has w0 W L) (hb : Below W.heap.size W W1) (S T : List Nat) (hS : ∀ j ∈ S, W.heap.size ≤ j) (hT : ∀ j ∈ T, W.heap.size ≤ j) (hST : ∀ j ∈ S, j ∉ T) (ha : a.P S W1) (hc : c.P T W1) : Has w0 W1 (L ++ [a, c]) := by
 refine Has.perm (L := a :: c :: L) ?_ (List.perm_append_comm (l₁ := [a, c]) (l₂ := L)); have h0 := h.step hb; obtain ⟨L', rfl, k1, k2, k3⟩ := h; have hlv : ∀ y ∈ L', ∀ k ∈ y.own, k < W.heap.size := fun y hy => y.asn.live _ _ (k2 y hy).1; refine ⟨⟨a, S⟩ :: ⟨c, T⟩ :: L', rfl, h0.below, fun y hy => ?_, ?_⟩
 · rcases List.mem_cons.1 hy with rfl | hy
   · exact ⟨ha, fun k hk => Nat.le_trans k1.size (hS k hk)⟩
   · rcases List.mem_cons.1 hy with rfl | hy
     · exact ⟨hc, fun k hk => Nat.le_trans k1.size (hT k hk)⟩
     · exact ⟨y.asn.stable _ _ _ (k2 y hy).1 (fun k hk => hb.block k (hlv y hy k hk)), (k2 y hy).2⟩
 · rw [List.pairwise_cons, List.pairwise_cons]; refine ⟨fun y hy k hk hky => ?_, fun y hy k hk hky => ?_, k3⟩
   · rcases List.mem_cons.1 hy with rfl | hy
     · exact hST k hk hky
     · have := hlv y hy k hky; have := hS k hk; omega
   · have := hlv y hy k hky; have := hT k hk; omega
theorem Has.loseK (h : Has w0 W L) (hk : L[k]? = some a) : Has w0 W (L.set k nilA) := h.turnK hk (fun S _ => ⟨[], rfl, Keeps.refl _ _, by simp⟩)
theorem Has.blk (h : Has w0 W L) (hk : L[k]? = some (boxA g t cs)) : W.heap[g]? = some (.cells cs t (0, 0)) := by
 obtain ⟨_, ⟨_, h1⟩, _⟩ := h.getK hk; exact h1
theorem Has.setc (h : Has w0 W L) (hk : L[k]? = some (boxA g t cs)) (v : Value) : Has w0 (W.setCell ⟨g, o, none⟩ v) (L.set k (boxA g t (cs.setIfInBounds o v))) :=
 h.turnK hk (fun S hS => by
  obtain ⟨rfl, hb⟩ := hS; exact ⟨[g], ⟨rfl, blk_set hb o v⟩, (Keeps.refl _ _).setCell g o v (.inl (by simp)), fun j hj => .inl hj⟩)
theorem Has.setr (h : Has w0 W L) (hk : L[k]? = some (boxA g t cs)) (cs' : Array Value) : Has w0 (W.setRow g cs') (L.set k (boxA g t cs')) :=
 h.turnK hk (fun S hS => by
  obtain ⟨rfl, hb⟩ := hS; exact ⟨[g], ⟨rfl, setRow_heap W g cs cs' t (0, 0) hb⟩, ⟨rfl, rfl, rfl, by rw [setRow_size]; exact NR _, fun j hj hn => setRow_other W g j cs' (by simpa using hn)⟩, fun j hj => .inl hj⟩)
theorem Has.boxed (h : Has w0 W L) (t : TypeId) (cs : Array Value) : Has w0 (W.alloc (.cells cs t)) (L ++ [boxA W.heap.size t cs]) := h.push ((BR _ _).alloc (NR _) _) [W.heap.size] (by simp) ⟨rfl, heap_alloc_new W _⟩
theorem Has.new (h : Has w0 W L) (t : TypeId) (cs : Array Value) : Has w0 (W.alloc (.cells cs t)) L := h.step ((BR _ _).alloc (NR _) _)
theorem Has.drewK (h : Has w0 W L) : Has w0 W.drew L := h.step (BR _ _).drew
variable {e size n n' : Nat} {v v1 : Value} {xs zs : List Value}
theorem Has.rowK (h : Has w0 W L) (hk : L[k]? = some (rowA e size n v xs)) : LRow W 0 e size v n xs := by
 obtain ⟨_, ⟨_, h1⟩, _⟩ := h.getK hk; exact h1
theorem Has.growK (h : Has w0 W L) (hk : L[k]? = some (rowA e size n v xs)) (hg : W.grownBy W1 v.ownBlock) (hr : LRow W1 0 e size v1 n' zs) (hat : v1.ownBlock = v.ownBlock ∨ ∃ q, v1.ownBlock = some q ∧ W.heap.size ≤ q) : Has w0 W1 (L.set k (rowA e size n' v1 zs)) :=
 h.turnK hk (fun S hS => by
  obtain ⟨rfl, _⟩ := hS; refine ⟨ownL v1, ⟨rfl, hr⟩, Keeps.of_grown hg _ (fun k hk => .inl (mem_ownL.2 hk)), fun k hk => ?_⟩; rw [mem_ownL] at hk ⊢; rcases hat with h1 | ⟨q, h1, h2⟩
  · exact .inl (h1.symm.trans hk)
  · rw [h1] at hk; injection hk with hk
    exact .inr (by omega))
theorem Has.nilK (h : Has w0 W L) (hk : L[k]? = some (rowA e size n v xs)) : Has w0 W (L.set k (rowA e size 0 (.slice none 0 0) [])) := h.turnK hk (fun S _ => ⟨[], ⟨rfl, by simp, .inl ⟨rfl, rfl⟩⟩, Keeps.refl _ _, by simp⟩)
theorem Has.putK {c : Nat} (h : Has w0 W L) (hk : L[k]? = some (rowA e size n (.slice (some ⟨g, 0, none⟩) n c) xs)) (u : Value) : Has w0 (W.setCell ⟨g, o, none⟩ u) (L.set k (rowA e size n (.slice (some ⟨g, 0, none⟩) n c) (xs.set o u))) :=
 h.turnK hk (fun S hS => by
  obtain ⟨rfl, hr⟩ := hS; exact ⟨_, ⟨rfl, LRow.put hr o u⟩, (Keeps.refl _ _).setCell g o u (.inl (by simp [ownL, Value.ownBlock])), fun j hj => .inl hj⟩)
theorem Has.cutK {c m : Nat} (h : Has w0 W L) (hk : L[k]? = some (rowA e size n (.slice (some ⟨g, 0, none⟩) n c) xs)) (hm : m ≤ n) : Has w0 W (L.set k (rowA e size m (.slice (some ⟨g, 0, none⟩) m c) (xs.take (m * size)))) :=
 h.turnK hk (fun S hS => by
  obtain ⟨rfl, h1, h2⟩ := hS; refine ⟨_, ⟨rfl, ?_, ?_⟩, Keeps.refl _ _, fun j hj => .inl hj⟩
  · rw [List.length_take, h1]; exact Nat.min_eq_left (Nat.mul_le_mul_right _ hm)
  · rcases h2 with ⟨h3, _⟩ | ⟨g', cap, cur, h3, h4, h5, h6, h7, h8, h9⟩
    · cases h3
    · injection h3 with h3 _ h3c
      injection h3 with h3
      injection h3 with h3
      subst h3 h3c; exact .inr ⟨g, c, cur, rfl, h4, h5, Nat.le_trans hm h6, h7, h8, by rw [← h9, List.take_take, Nat.min_eq_left (Nat.mul_le_mul_right _ hm)]⟩)
theorem Has.pushNil (h : Has w0 W L) (e size : Nat) : Has w0 W (L ++ [rowA e size 0 (.slice none 0 0) []]) := h.push (BR _ _) [] (by simp) ⟨rfl, by simp, .inl ⟨rfl, rfl⟩⟩
theorem Has.pushRow (h : Has w0 W L) (hb : Below W.heap.size W W1) (hr : LRow W1 W.heap.size e size v n xs) : Has w0 W1 (L ++ [rowA e size n v xs]) := h.push hb (ownL v) (fun j hj => (LRow.lt hr j (mem_ownL.1 hj)).2.1) ⟨rfl, Tm.LRow.low hr (Nat.zero_le _)⟩
end
def timA (g : Nat) (pv : Value) (now : Nat) (ws : List W3) : Asn where
 P S W := ∃ m, S = [g, m] ∧ TimAt W g m pv now ws
 stable := by
  rintro S W W' ⟨m, rfl, h⟩ hk; exact ⟨m, rfl, h.move (hk g (by simp)) (hk m (by simp))⟩
 live := by
  rintro S W ⟨m, rfl, h⟩ k hk; simp only [List.mem_cons, List.not_mem_nil, or_false] at hk; rcases hk with rfl | rfl
  · exact h.lt.1
  · exact h.lt.2
def intA (v : Value) (l : List Int) : Asn := rowA 3 1 l.length v (l.map (O Y))
theorem ps_at {S : List Nat} {W : World} {pb pc : Nat} {ps : List Int} (h : (intA (.slice (some ⟨pb, 0, none⟩) ps.length pc) ps).P S W) : PsAt W pb ps := by
 obtain ⟨_, h⟩ := h; intro i hi; have := LRow.cell h i (O Y (ps.getD i 0)) (by rw [List.getElem?_map, GD, GE hi]; rfl); rwa [add_plain] at this
theorem pk_row {W : World} {A : Option Addr} {c : Nat} {qs : List Int} (h : LRow W 0 3 1 (.slice A qs.length c) qs.length (qs.map (O Y))) : PkAt W A c qs := by
 obtain ⟨A', c', hv, hle⟩ := LRow.slice h; injection hv with h1 h2 h3
 subst h3; refine ⟨hle, fun i hi => ?_⟩; rcases h.2 with ⟨_, h3⟩ | ⟨b, cap, cur, h3, _⟩
 · omega
 · injection h3 with h3 _ _
   subst h3; exact ⟨_, rfl, LRow.cell h i (O Y (qs.getD i 0)) (by rw [List.getElem?_map, GD, GE hi]; rfl)⟩
section
variable {w0 W : World} {L : List Asn} {g pb pc now k j : Nat} {ps qs : List Int} {ws : List W3}
theorem newH (h : Has w0 W L) {A : Option Addr} {c : Nat} (hq : PkAt W A c ps) (hok : PsOk ps) : Calls Tryz.prog 27 #[.slice A ps.length c] W fun e w' => ∃ g pb pc, e = .returned (.tuple #[.pointer (some ⟨g, 0, none⟩), O Y 0]) ∧ Has w0 w' (L ++ [timA g (.slice (some ⟨pb, 0, none⟩) ps.length pc) 0 [], intA (.slice (some ⟨pb, 0, none⟩) ps.length pc) ps]) := by
 refine (new_any ps A c W hq).mono ?_; rintro e w' (⟨_, g, m, pb, pc, rfl, hT, hr, hb, hg, hm, h1, h2⟩ | ⟨hn, _⟩)
 · have hpb := (LRow.lt hr pb rfl).2.1; exact ⟨g, pb, pc, rfl, h.push2 hb [g, m] [pb] (by simp; omega) (by simpa using hpb) (by simp; omega) ⟨m, rfl, hT⟩ ⟨rfl, Tm.LRow.low hr (Nat.zero_le _)⟩⟩
 · exact absurd hok hn
theorem TimAt.same {W W' : World} {g m m' now now' : Nat} {pv pv' : Value} {ws ws' : List W3} (h : TimAt W g m pv now ws) (h' : TimAt W g m' pv' now' ws') : m' = m := by
 have h1 := h'.blk; rw [h.blk] at h1; injection h1 with h1
 injection h1 with h1
 have h2 := congrArg Array.toList h1; simp at h2; exact h2.2.2.symm
theorem tickH (h : Has w0 W L) (hk : L[k]? = some (timA g (.slice (some ⟨pb, 0, none⟩) ps.length pc) now ws)) (hp : L[j]? = some (intA (.slice (some ⟨pb, 0, none⟩) ps.length pc) ps)) (hok : PsOk ps) (hgood : Good ps now ws) (hn : now ≤ 10000)
 {A : Option Addr} {c : Nat} (hq : PkAt W A c qs) (hql : (qs.length : Int) ≤ 9223372036854775807) : Calls Tryz.prog 76 #[.pointer (some ⟨g, 0, none⟩), .slice A qs.length c] W fun e w' => ∃ A' c' l, l = (told now (rel now 0 ps qs ws)).map W3.due ∧ l.length ≤ c' ∧ e = .returned (.slice A' l.length c') ∧
  Has w0 w' (L.set k (timA g (.slice (some ⟨pb, 0, none⟩) ps.length pc) (now + 1) (left now (rel now 0 ps qs ws))) ++ [rowA 114 2 l.length (.slice A' l.length c') (l.flatMap enc2)]) := by
 obtain ⟨_, ⟨m, rfl, hT⟩, _⟩ := h.getK hk; obtain ⟨_, hP, _⟩ := h.getK hp; refine (tick_any g m pb pc ps now ws A c qs W hT (ps_at hP) hok hgood hn hq hql).mono ?_; rintro e w' ⟨v, rfl, hr, hT2, hkp⟩; obtain ⟨A', c', rfl, hc⟩ := LRow.slice hr; refine ⟨A', c', _, rfl, hc, rfl, h.turnPush hk (fun S hS => ?_) (ownL (.slice A' ((told now (rel now 0 ps qs ws)).map W3.due).length c')) (fun j hj => (LRow.lt hr j (mem_ownL.1 hj)).2.1) ⟨rfl, Tm.LRow.low hr (Nat.zero_le _)⟩⟩; obtain ⟨m', rfl, hT3⟩ := hS; obtain rfl := TimAt.same (W' := W) hT hT3; exact ⟨⟨m', rfl, hT2⟩, hkp⟩
theorem waitH (h : Has w0 W L) {pv : Value} (hk : L[k]? = some (timA g pv now ws)) (hs : Sorted ws) (hl : ws.length ≤ 100000) : Calls Tryz.prog 119 #[.pointer (some ⟨g, 0, none⟩)] W fun e w' => ∃ A' c', (ws.map W3.due).length ≤ c' ∧ e = .returned (.slice A' (ws.map W3.due).length c') ∧ RowIs w' W.heap.size (.slice A' (ws.map W3.due).length c') (ws.map W3.due) ∧ Below W.heap.size W w' := by
 obtain ⟨_, ⟨m, rfl, hT⟩, _⟩ := h.getK hk; refine (wait_any g m pv now ws W hT hs hl).mono ?_; rintro e w' ⟨v, rfl, hr, hb⟩; obtain ⟨A', c', rfl, hc⟩ := LRow.slice hr; exact ⟨A', c', hc, rfl, hr, hb⟩
theorem nowH (h : Has w0 W L) {pv : Value} (hk : L[k]? = some (timA g pv now ws)) : Calls Tryz.prog 42 #[.pointer (some ⟨g, 0, none⟩)] W fun e w' => e = .returned (O Y now) ∧ W = w' := by
 obtain ⟨_, ⟨m, rfl, hT⟩, _⟩ := h.getK hk; exact now_is W g now hT.c1
end
def setA (g : Nat) (l : List S30) : Asn where
 P S W := ∃ v, S = g :: ownL v ∧ SetIs 138 171 W 0 g v l
 stable := by
  rintro S W W' ⟨v, rfl, h⟩ hk; exact ⟨v, rfl, h.move (hk g (by simp)) (fun q hq => hk q (List.mem_cons_of_mem _ (mem_ownL.2 hq)))⟩
 live := by
  rintro S W ⟨v, rfl, h⟩ k hk; rcases List.mem_cons.1 hk with rfl | hk
  · exact h.lt
  · exact (LRow.lt h.row k (mem_ownL.1 hk)).1
section
variable {w0 W : World} {L : List Asn} {g k : Nat} {l : List S30}
theorem Has.leftK {l' : List S30} {W1 : World} (h : Has w0 W L) (hk : L[k]? = some (setA g l)) (hl : ∀ v, SetIs 138 171 W 0 g v l → Rd.Left 138 171 W W1 0 g v l') : Has w0 W1 (L.set k (setA g l')) :=
 h.turnK hk (fun S hS => by
  obtain ⟨v, rfl, hs⟩ := hS; obtain ⟨v', hs', ho, hat⟩ := hl v hs; refine ⟨_, ⟨v', rfl, hs'⟩, ⟨ho.os, ho.tape, ho.output, ho.size, fun j hj hn => ho.block j hj (fun e => hn (by simp [e])) (fun e => hn (List.mem_cons_of_mem _ (mem_ownL.2 e.symm)))⟩, fun j hj => ?_⟩; rcases List.mem_cons.1 hj with rfl | hj
  · exact .inl (by simp)
  · rw [mem_ownL] at hj; rcases hat with h1 | ⟨b, h1, h2⟩
    · exact .inl (List.mem_cons_of_mem _ (mem_ownL.2 (h1.symm.trans hj)))
    · rw [h1] at hj; injection hj with hj
      exact .inr (by omega))
theorem newsH (h : Has w0 W L) : Calls Tryz.prog 25 #[] W fun e w' => ∃ g, e = .returned (.pointer (some ⟨g, 0, none⟩)) ∧ Has w0 w' (L ++ [setA g []]) ∧ Below W.heap.size W w' := by
 refine (Rd.new_any W).mono ?_; rintro e w' ⟨rfl, rfl⟩; exact ⟨_, rfl, h.push ((BR _ _).alloc (NR _) _) [W.heap.size] (by simp) ⟨_, rfl, Rd.new_set W 0 (Nat.zero_le _)⟩, (BR _ _).alloc (NR _) _⟩
theorem putH (h : Has w0 W L) (hk : L[k]? = some (setA g l)) (a b c : Int) (h1 : 1 ≤ b) (h2 : b ≤ 100) (h3 : l.length < 10000) : Calls Tryz.prog 77 #[.pointer (some ⟨g, 0, none⟩), .agg #[O Y a, O Y b, O Y c]] W fun e w' => e = .returned (O Y 0) ∧ Has w0 w' (L.set k (setA g (l ++ [⟨a, b, c⟩]))) := by
 obtain ⟨_, ⟨v, rfl, hs⟩, _⟩ := h.getK hk; refine (Rd.put_ok ⟨a, b, c⟩ g 0 v l W hs (Nat.zero_le _) h1 h2 h3).mono ?_; rintro e w' ⟨rfl, hl⟩; refine ⟨rfl, h.leftK hk (fun v' hs' => ?_)⟩; have e1 : v' = v := by
  have h4 := hs'.blk; rw [hs.blk] at h4; injection h4 with h4
  injection h4 with h4
  have h5 := congrArg Array.toList h4; simp at h5; exact h5.symm
 subst e1; exact hl
theorem takeH (h : Has w0 W L) (hk : L[k]? = some (setA g l)) (hl : l.length ≤ 10000) (a p : Int) (h0 : 0 < (places l (mxp l)).length) (ha : a < mxp l) : Calls Tryz.prog 79 #[.pointer (some ⟨g, 0, none⟩), O Y a, O Y p] W fun e w' => e = .returned (.tuple #[.agg #[O Y (l.getD (pickPlace l p) z30).f0, O Y (l.getD (pickPlace l p) z30).f1, O Y (l.getD (pickPlace l p) z30).f2], .bool true]) ∧ Has w0 w' (L.set k (setA g (l.eraseIdx (pickPlace l p)))) := by
 obtain ⟨_, ⟨v, rfl, hs⟩, _⟩ := h.getK hk; refine (Rd.takeYes g 0 v l a p W hs (Nat.zero_le _) hl h0 ha).mono ?_; rintro e w' ⟨rfl, hl⟩; refine ⟨rfl, h.leftK hk (fun v' hs' => ?_)⟩; have e1 : v' = v := by
  have h4 := hs'.blk; rw [hs.blk] at h4; injection h4 with h4
  injection h4 with h4
  have h5 := congrArg Array.toList h4; simp at h5; exact h5.symm
 subst e1; exact hl
theorem takeNoH (h : Has w0 W L) (hk : L[k]? = some (setA g l)) (hl : l.length ≤ 10000) (a p : Int) (hn : (places l (mxp l)).length = 0 ∨ mxp l ≤ a) : Calls Tryz.prog 79 #[.pointer (some ⟨g, 0, none⟩), O Y a, O Y p] W fun e w' => e = .returned (.tuple #[.agg #[O Y 0, O Y 0, O Y 0], .bool false]) ∧ Below W.heap.size W w' := by
 obtain ⟨_, ⟨v, rfl, hs⟩, _⟩ := h.getK hk; exact Rd.takeNo g 0 v l a p W hs hl hn
theorem allH (h : Has w0 W L) (hk : L[k]? = some (setA g l)) (hl : l.length ≤ 10000) : Calls Tryz.prog 120 #[.pointer (some ⟨g, 0, none⟩)] W fun e w' => ∃ A c, l.length ≤ c ∧ e = .returned (.slice A l.length c) ∧ LRow w' W.heap.size 171 3 (.slice A l.length c) l.length (l.flatMap enc3) ∧ Below W.heap.size W w' := by
 obtain ⟨_, ⟨v, rfl, hs⟩, _⟩ := h.getK hk; refine (Rd.allOf g 0 v l W hs hl).mono ?_; rintro e w' ⟨v, rfl, hr, hb⟩; obtain ⟨A', c', rfl, hc⟩ := LRow.slice hr; exact ⟨A', c', hc, rfl, hr, hb⟩
end
end
end Go.Proofs.YtoopeamoejmjeaaGreat.Tm
namespace Go.Proofs.YtoopeamoejmjeaaGreat.Tp
open RowKit YtoopeamoejmjeaaGreatW.PrintWords YtoopeamoejmjeaaGreatW.PrintLast YtoopeamoejmjeaaGreatW.PrintMore Tm
structure OkL (l : List I3) : Prop where
 pos : 0 < l.length
 le : l.length ≤ 200
 all : ∀ x ∈ l, okI x = true
 sm : ∀ x ∈ l, SmI x
theorem CodeAt.cells {w : World} {A : Option Addr} {c : Nat} {l : List I3} (h : CodeAt w (.slice A l.length c) l) (k : Nat) (x : I3) (hx : l[k]? = some x) : ∃ ad, A = some ad ∧ w.cell? (ad.add (k * 3)) = some (O Y x.o) ∧ w.cell? ⟨(ad.add (k * 3)).block, (ad.add (k * 3)).off + 1, none⟩ = some (O Y x.a) ∧ w.cell? ⟨(ad.add (k * 3)).block, (ad.add (k * 3)).off + 2, none⟩ = some (O Y x.b) := CodeAt.at h k x hx
def NRel (w : World) (l : List I3) (vi : Value) (wr : World) : Prop := ∃ k : Nat, k ≤ l.length ∧ vi = O Y k ∧ Below w.heap.size w wr
theorem nright_any (v : Value) (l : List I3) (w : World) (h : CodeAt w v l) (hl : OkL l) : Calls Tryz.prog 141 #[v] w fun e w' => e = .returned (.bool true) ∧ Below w.heap.size w w' := by
 obtain ⟨A, c, rfl, hc, _⟩ := id h; have H0 := ZZ h; have hl0 := ZZ hl; have hlen := hl.le; have hp1 : (0 : Int) < (l.length : Int) := by have := hl.pos; omega
 have hp2 : (l.length : Int) ≤ 200 := by omega
 have hp3 : 0 < l.length := hl.pos; clear h hl; go_enter Tryz.func141, Tryz.ntmps141; go_wp2_with fail; go_loopw [7] (fun vi wr => NRel w l vi wr) (fun vi _ => l.length - (intOf vi).toNat); case atStart => exact ⟨0, by omega, rfl, BR _ _⟩
 case round =>
  obtain ⟨k, hk, rfl, hb⟩ := hrel; replace hb := ZZ hb; by_cases hd : k < l.length
  · obtain ⟨x, hx⟩ : ∃ x, l[k]? = some x := ⟨_, GE hd⟩
    have b1 : ((k : Nat) : Int) < (l.length : Int) := by omega
    have b2 : decide (l.length ≤ k) = false := decide_eq_false (by omega); have hk9 : (k : Int) ≤ 200 := by omega
    obtain ⟨ad, rfl, c0, c1, c2⟩ := (H0.out.step hb.out).cells k x hx; have hxm := LM hx; have hR := right_any x.o x.a x.b (wr.alloc (.cells #[O Y x.o, O Y x.a, O Y x.b] 127)); rw [show rightI x.o x.a x.b = true from hl0.out.all x hxm] at hR; have hb4 := ZZ (hb.out.alloc hb.out.size (.cells #[O Y x.o, O Y x.a, O Y x.b] 127)); replace hR := ZZ hR; replace hd := ZZ hd; clear hx hxm hk; go_wp2_with fail; refine hR.out.mono ?_; rintro e w5 ⟨rfl, hb5⟩; have hb6 := ZZ (hb4.out.trans (hb5.mono hb4.out.size)); clear hb5 hR c0 c1 c2; go_wp2_with fail; exact ⟨⟨k + 1, hd.out, by go_num, hb6.out⟩, by have := hd.out; simp [intOf]; omega⟩
  · have b1 : ¬ (((k : Nat) : Int) < (l.length : Int)) := by omega
    clear hk hd; go_wp2_with fail; go_ret; exact ⟨rfl, hb.out⟩
def openI (x : I3) : Option I3 := if x.o = 21 then some ⟨22, 0, 0⟩ else if x.o = 23 then some ⟨24, x.a, 0⟩ else none
def I3.val (x : I3) : Value := .agg #[O Y x.o, O Y x.a, O Y x.b]
theorem opening_any (o a b : Int) (w : World) : Calls Tryz.prog 142 #[.agg #[O Y o, O Y a, O Y b]] w fun e w' => e = .returned (.tuple #[((openI ⟨o, a, b⟩).getD ⟨0, 0, 0⟩).val, .bool (openI ⟨o, a, b⟩).isSome]) ∧ Below w.heap.size w w' := by
 by_cases h1 : o = 21
 · subst h1; go_enter Tryz.func142, Tryz.ntmps142; go_wp2_with fail; refine bodyPost_ret (results_ct rfl _ _ (w.heap.size + 1) 127 #[O Y 22, O Y 0, O Y 0] (0, 0) _ rfl (by simpa using heap_alloc_last (w.alloc (.cells #[O Y 21, O Y a, O Y b] 127)) (.cells #[O Y 22, O Y 0, O Y 0] 127)) Tryz.underlying127 rfl (by kernel_rfl)) rfl ?_; exact ⟨by simp [openI, I3.val], ((BR w.heap.size w).alloc (NR _) _).alloc (by simp) _⟩
 · by_cases h2 : o = 23
   · subst h2; go_enter Tryz.func142, Tryz.ntmps142; go_wp2_with fail; refine bodyPost_ret (results_ct rfl _ _ (w.heap.size + 1) 127 #[O Y 24, O Y a, O Y 0] (0, 0) _ rfl (by simpa using heap_alloc_last (w.alloc (.cells #[O Y 23, O Y a, O Y b] 127)) (.cells #[O Y 24, O Y a, O Y 0] 127)) Tryz.underlying127 rfl (by kernel_rfl)) rfl ?_; exact ⟨by simp [openI, I3.val], ((BR w.heap.size w).alloc (NR _) _).alloc (by simp) _⟩
   · go_enter Tryz.func142, Tryz.ntmps142; go_wp2_with fail; refine bodyPost_ret (results_ct rfl _ _ (w.heap.size + 1) 127 #[O Y 0, O Y 0, O Y 0] (0, 0) _ rfl (by simpa using heap_alloc_last (w.alloc (.cells #[O Y o, O Y a, O Y b] 127)) (.cells #[O Y 0, O Y 0, O Y 0] 127)) Tryz.underlying127 rfl (by kernel_rfl)) rfl ?_; exact ⟨by simp [openI, I3.val, h1, h2], ((BR w.heap.size w).alloc (NR _) _).alloc (by simp) _⟩
section
def arrI (M : List Int) : Array Value := (M.map (O Y)).toArray
theorem arrI_set (M : List Int) (k : Nat) (x : Int) : (arrI M).setIfInBounds k (O Y x) = arrI (M.set k x) := by unfold arrI; simp [List.map_set]
theorem arrI_get (M : List Int) (k : Nat) (x : Int) (h : M[k]? = some x) : (arrI M)[k]? = some (O Y x) := by unfold arrI; simp [h]
def eqI (x y : I3) : Bool := x.o == y.o && (x.a == y.a && x.b == y.b)
structure ScanS where
 M : List Int
 H : List Int
 S : List (Nat × I3)
def topA (S : List (Nat × I3)) : Int := match S.getLast? with
 | some r => (r.1 : Int)
 | none => -1
def scan1 (k : Nat) (x : I3) (s : ScanS) : Option ScanS := match openI x with
 | some e => some ⟨s.M.set k (-1), s.H.set k (topA s.S), s.S ++ [(k, e)]⟩
 | none => if x.o ≠ 22 ∧ x.o ≠ 24 then some ⟨s.M.set k (-1), s.H.set k (topA s.S), s.S⟩ else match s.S.getLast? with
  | none => none
  | some r => if eqI r.2 x = true then some ⟨((s.M.set k (-1)).set k (r.1 : Int)).set r.1 (k : Int), s.H.set k (topA s.S), s.S.dropLast⟩ else none
def scanR : List I3 → Nat → ScanS → Option ScanS
 | [], _, s => some s
 | x :: r, k, s => match scan1 k x s with
  | none => none
  | some s' => scanR r (k + 1) s'
def scan0 (n : Nat) : ScanS := ⟨List.replicate n 0, List.replicate n 0, []⟩
def scanP (l : List I3) : Option (List Int × List Int) := match scanR l 0 (scan0 l.length) with
 | none => none
 | some s => if s.S = [] then some (s.M, s.H) else none
def regE (r : Nat × I3) : List Value := [O Y (r.1 : Int), O Y r.2.o, O Y r.2.a, O Y r.2.b]
theorem regs_len (S : List (Nat × I3)) : (S.flatMap regE).length = S.length * 4 := by
 induction S with
 | nil => rfl
 | cons x r ih => simp only [List.flatMap_cons, List.length_append, List.length_cons, ih]; simp [regE]; omega
structure ScanSt (w W : World) (gm gh : Nat) (s : ScanS) (v : Value) (n : Nat) : Prop where
 m : W.heap[gm]? = some (.cells (arrI s.M) 3 (0, 0))
 h : W.heap[gh]? = some (.cells (arrI s.H) 3 (0, 0))
 row : LRow W w.heap.size 261 4 v s.S.length (s.S.flatMap regE)
 lm : s.M.length = n
 lh : s.H.length = n
 ne : gm ≠ gh
 lo : w.heap.size ≤ gm ∧ w.heap.size ≤ gh
 bel : Below w.heap.size w W
theorem ScanSt.step {w W W' : World} {gm gh : Nat} {s : ScanS} {v : Value} {n : Nat} (h : ScanSt w W gm gh s v n) (hb : Below W.heap.size W W') : ScanSt w W' gm gh s v n :=
 ⟨(hb.block _ (ltA h.m)).trans h.m, (hb.block _ (ltA h.h)).trans h.h, LRow.step h.row hb, h.lm, h.lh, h.ne, h.lo, h.bel.trans (hb.mono h.bel.size)⟩
theorem LRow.apart {w : World} {B e size n : Nat} {v : Value} {xs : List Value} (h : LRow w B e size v n xs) {g : Nat} {c : Array Value} {t : TypeId} {fz : Nat × Nat} (hg : w.heap[g]? = some (.cells c t fz)) (he : e ≠ t) : v.ownBlock ≠ some g := fun hk => by
 obtain ⟨_, _, c2, h2⟩ := LRow.lt h g hk; rw [hg] at h2; injection h2 with h2
 injection h2 with _ h2 _
 exact he h2.symm
theorem LRow.setC {w : World} {B e size n : Nat} {v : Value} {xs : List Value} (h : LRow w B e size v n xs) {g j : Nat} {c : Array Value} {t : TypeId} {fz : Nat × Nat} (hg : w.heap[g]? = some (.cells c t fz)) (he : e ≠ t) (x : Value) : LRow (w.setCell ⟨g, j, none⟩ x) B e size v n xs :=
 h.move (fun k hk => BH _ _ _ _ (by show k ≠ g; intro e2; subst e2; exact LRow.apart h hg he hk))
theorem ScanSt.putM {w W : World} {gm gh : Nat} {s : ScanS} {v : Value} {n : Nat} (h : ScanSt w W gm gh s v n) (k : Nat) (x : Int) : ScanSt w (W.setCell ⟨gm, k, none⟩ (O Y x)) gm gh ⟨s.M.set k x, s.H, s.S⟩ v n :=
 ⟨by rw [← arrI_set]; exact blk_set h.m k _, (BH _ _ _ _ (by show gh ≠ gm; exact fun e => h.ne e.symm)).trans h.h, LRow.setC h.row h.m (by decide) _, by simp [h.lm], h.lh, h.ne, h.lo, h.bel.setCell (by exact h.lo.1) _⟩
theorem ScanSt.putH {w W : World} {gm gh : Nat} {s : ScanS} {v : Value} {n : Nat} (h : ScanSt w W gm gh s v n) (k : Nat) (x : Int) : ScanSt w (W.setCell ⟨gh, k, none⟩ (O Y x)) gm gh ⟨s.M, s.H.set k x, s.S⟩ v n :=
 ⟨(BH _ _ _ _ (by show gm ≠ gh; exact h.ne)).trans h.m, by rw [← arrI_set]; exact blk_set h.h k _, LRow.setC h.row h.h (by decide) _, h.lm, by simp [h.lh], h.ne, h.lo, h.bel.setCell (by exact h.lo.2) _⟩
theorem ScanSt.cm {w W : World} {gm gh : Nat} {s : ScanS} {v : Value} {n : Nat} (h : ScanSt w W gm gh s v n) (k : Nat) (hk : k < n) : ∃ x, s.M[k]? = some x ∧ W.cell? ⟨gm, k, none⟩ = some (O Y x) ∧ W.frozen? ⟨gm, k, none⟩ = false := by
 have hk' : k < s.M.length := by rw [h.lm]; exact hk
 exact ⟨_, GE hk', (blk_cell h.m k).trans (arrI_get _ _ _ (GE hk')), blk_frozen h.m k⟩
theorem ScanSt.ch {w W : World} {gm gh : Nat} {s : ScanS} {v : Value} {n : Nat} (h : ScanSt w W gm gh s v n) (k : Nat) (hk : k < n) : ∃ x, s.H[k]? = some x ∧ W.cell? ⟨gh, k, none⟩ = some (O Y x) ∧ W.frozen? ⟨gh, k, none⟩ = false := by
 have hk' : k < s.H.length := by rw [h.lh]; exact hk
 exact ⟨_, GE hk', (blk_cell h.h k).trans (arrI_get _ _ _ (GE hk')), blk_frozen h.h k⟩
theorem info261 : (Tryz.prog.info? 261).map (fun i => (i.zero, i.size, i.bytes)) = some (some (.agg #[O Y 0, O Y 0, O Y 0, O Y 0]), 4, 32) := by kernel_rfl
theorem mk22 (n : Nat) (hn : n ≤ 1000) (w : World) : (Instr.makeSlice 22 (O Y (n : Int)) (O Y (n : Int))).run Tryz.prog w = .ok (.slice (some ⟨w.heap.size, 0, none⟩) n n) (w.alloc (.cells (arrI (List.replicate n 0)) 3)) := by
 have h := run_make_row' 22 3 (O Y 0) 8 Tryz.underlying22 info3T rfl .i64 .i64 n (by omega) (by omega) w; have e : madeCells #[O Y 0] n = arrI (List.replicate n 0) := by
  apply Array.ext
  · rw [size_madeCells]; simp [arrI]
  · intro i h1 h2; simp [madeCells, arrI, Nat.mod_one]
 rw [← e]; exact h
theorem eq127 (a b c a' b' c' : Int) (w : World) : (Op.equalIn 10000 127 (.agg #[O Y a, O Y b, O Y c]) (.agg #[O Y a', O Y b', O Y c'])).run Tryz.prog w = .ok ((a == a') && ((b == b') && (c == c'))) w := by
 go_simp; by_cases h1 : a = a' <;> by_cases h2 : b = b' <;> by_cases h3 : c = c' <;> simp [h1, h2, h3]
attribute [local go_sem high] eq127
theorem scan_made {w u : World} (hb : Below w.heap.size w u) (n : Nat) : ScanSt w ((u.alloc (.cells (arrI (List.replicate n 0)) 3)).alloc (.cells (arrI (List.replicate n 0)) 3)) u.heap.size (u.heap.size + 1) (scan0 n) (.slice none 0 0) n ∧ ScanSt w ((u.alloc (.cells (arrI (List.replicate n 0)) 3)).alloc (.cells (arrI (List.replicate n 0)) 3)) (u.heap.size + 1) u.heap.size (scan0 n) (.slice none 0 0) n := by
 have h1 := heap_alloc_last (u.alloc (.cells (arrI (List.replicate n 0)) 3)) (.cells (arrI (List.replicate n 0)) 3); have h0 := (Below.heap_alloc (u.alloc (.cells (arrI (List.replicate n 0)) 3)) (.cells (arrI (List.replicate n 0)) 3) u.heap.size (by simp)).trans (heap_alloc_last u (.cells (arrI (List.replicate n 0)) 3)); rw [World.size_alloc] at h1; have hB := (hb.alloc hb.size (.cells (arrI (List.replicate n 0)) 3)).alloc (by have := hb.size; simp; omega) (.cells (arrI (List.replicate n 0)) 3); have hs := hb.size; exact ⟨⟨h0, h1, LRow.nil _ _ _ _, by simp [scan0], by simp [scan0], by omega, by omega, hB⟩, ⟨h1, h0, LRow.nil _ _ _ _, by simp [scan0], by simp [scan0], by omega, by omega, hB⟩⟩
theorem ScanSt.app {w W w1 : World} {gm gh : Nat} {s : ScanS} {v : Value} {n : Nat} (h : ScanSt w W gm gh s v n) (r : Nat × I3) (A1 : Option Addr) (c1 : Nat) (cs : Array Value) (hrow : LRow w1 w.heap.size 261 4 (.slice A1 (s.S.length + 1) c1) (s.S.length + 1) (s.S.flatMap regE ++ regE r)) (hb : Below w.heap.size w w1) (hg : (W.alloc (.cells cs 261)).grownBy w1 v.ownBlock) : ScanSt w w1 gm gh ⟨s.M, s.H, s.S ++ [r]⟩ (.slice A1 (s.S ++ [r]).length c1) n := by
 have k := fun {g : Nat} {c : Array Value} (hc : W.heap[g]? = some (.cells c 3 (0, 0))) => (hg.block g (by have := (ltA hc); simp; omega) (fun e => LRow.apart h.row hc (by decide) e.symm)).trans ((Below.heap_alloc W (.cells cs 261) g (ltA hc)).trans hc); refine ⟨k h.m, k h.h, ?_, h.lm, h.lh, h.ne, h.lo, hb⟩; rw [show (s.S ++ [r]).length = s.S.length + 1 by simp]; simpa using hrow
theorem LRow.cut {w : World} {B e size n m c : Nat} {A : Option Addr} {xs ys : List Value} (h : LRow w B e size (.slice A n c) n xs) (hm : m ≤ n) (hn : 0 < n) (hy : ys = xs.take (m * size)) : LRow w B e size (.slice A m c) m ys := by
 subst hy; obtain ⟨h1, h2⟩ := h; have hmn : m * size ≤ n * size := Nat.mul_le_mul_right size hm; rcases h2 with ⟨_, h0⟩ | ⟨g, cap, cur, h3, h4, h5, h6, h7, h8, h9⟩
 · omega
 · injection h3 with h3 _ h3c
   subst h3; subst h3c; exact ⟨by rw [List.length_take, h1]; omega, .inr ⟨g, c, cur, rfl, h4, h5, by omega, h7, h8, by rw [← h9, List.take_take]; congr 1; omega⟩⟩
theorem ScanSt.pop {w W : World} {gm gh : Nat} {s : ScanS} {n : Nat} {S1 : List (Nat × I3)} {r : Nat × I3} {A : Option Addr} {c : Nat} (h : ScanSt w W gm gh s (.slice A (S1.length + 1) c) n) (hs : s.S = S1 ++ [r]) : ScanSt w W gm gh ⟨s.M, s.H, S1⟩ (.slice A S1.length c) n := by
 refine ⟨h.m, h.h, ?_, h.lm, h.lh, h.ne, h.lo, h.bel⟩; have hr := h.row; rw [hs] at hr; simp only [List.length_append, List.length_singleton] at hr; refine LRow.cut hr (Nat.le_succ _) (Nat.succ_pos _) ?_; rw [List.flatMap_append, ← regs_len S1, List.take_left']; rfl
theorem regs_get (S1 : List (Nat × I3)) (r : Nat × I3) (j : Nat) (hj : j < 4) : ((S1 ++ [r]).flatMap regE)[S1.length * 4 + j]? = (regE r)[j]? := by
 rw [List.flatMap_append, ← regs_len S1, List.getElem?_append_right (by omega)]; simp
theorem ScanSt.top {w W : World} {gm gh : Nat} {s : ScanS} {n : Nat} {S1 : List (Nat × I3)} {r : Nat × I3} {A : Option Addr} {c : Nat} (h : ScanSt w W gm gh s (.slice A (S1.length + 1) c) n) (hs : s.S = S1 ++ [r]) : ∃ g, A = some ⟨g, 0, none⟩ ∧ W.cell? ⟨g, S1.length * 4, none⟩ = some (O Y (r.1 : Int)) ∧ W.cell? ⟨g, S1.length * 4 + 1, none⟩ = some (O Y r.2.o) ∧ W.cell? ⟨g, S1.length * 4 + 2, none⟩ = some (O Y r.2.a) ∧ W.cell? ⟨g, S1.length * 4 + 3, none⟩ = some (O Y r.2.b) := by
 have hr := h.row; rw [hs] at hr; simp only [List.length_append, List.length_singleton] at hr; obtain ⟨h1, h2⟩ := id hr; rcases h2 with ⟨_, h0⟩ | ⟨g, cap, cur, h3, h4⟩
 · omega
 · injection h3 with h3 _ h3c
   subst h3; have k := fun (j : Nat) (hj : j < 4) (u : Value) (hu : (regE r)[j]? = some u) => LRow.cell hr (S1.length * 4 + j) u ((regs_get S1 r j hj).trans hu); simp only [add_plain] at k; exact ⟨g, rfl, k 0 (by omega) _ rfl, k 1 (by omega) _ rfl, k 2 (by omega) _ rfl, k 3 (by omega) _ rfl⟩
theorem snoc_of {α : Type} (S : List α) (h : S ≠ []) : ∃ S1 r, S = S1 ++ [r] := ⟨S.dropLast, S.getLast h, (List.dropLast_concat_getLast h).symm⟩
theorem topA_snoc (S1 : List (Nat × I3)) (r : Nat × I3) : topA (S1 ++ [r]) = (r.1 : Int) := by unfold topA; simp
theorem scanR_cons {l : List I3} {k : Nat} {x : I3} (hx : l[k]? = some x) (s : ScanS) : scanR (l.drop k) k s = (match scan1 k x s with | none => none | some s' => scanR (l.drop (k + 1)) (k + 1) s') := by
 rw [drop_consT l k x hx, scanR]
def ScRel (w : World) (gm gh : Nat) (l : List I3) (vs vi : Value) (wr : World) : Prop := ∃ (k : Nat) (s : ScanS), k ≤ l.length ∧ vi = O Y k ∧ ScanSt w wr gm gh s vs l.length ∧ s.S.length ≤ k ∧ (∀ r ∈ s.S, r.1 < k) ∧ scanR l 0 (scan0 l.length) = scanR (l.drop k) k s
theorem scan_any (v : Value) (l : List I3) (w : World) (h : CodeAt w v l) (hl : OkL l) : Calls Tryz.prog 108 #[v] w fun e w' => Below w.heap.size w w' ∧ match scanP l with
 | none => e = .returned (.tuple #[.slice none 0 0, .slice none 0 0, O Y 7])
 | some (m, h) => ∃ gm gh, e = .returned (.tuple #[.slice (some ⟨gm, 0, none⟩) l.length l.length, .slice (some ⟨gh, 0, none⟩) l.length l.length, O Y 0]) ∧ m.length = l.length ∧ h.length = l.length ∧ w'.heap[gm]? = some (.cells (arrI m) 3 (0, 0)) ∧ w'.heap[gh]? = some (.cells (arrI h) 3 (0, 0)) := by
 have H0 := ZZ h; have hl0 := ZZ hl; obtain ⟨A, c, rfl, hc, _⟩ := id h; have hlen := hl.le; have hN := ZZ (nright_any _ l w h hl); clear h hl; go_enter Tryz.func108, Tryz.ntmps108; go_wp2_with fail; refine wp_scope_ghost 0 (fun _ _ _ => False) rfl ?_ (fun n a w h => h.elim); go_wp2_with fail; refine hN.out.mono ?_; rintro e uu ⟨rfl, hb0⟩; have hbu := ZZ (hb0.trans (BR _ _).drew); clear hb0; have mk := mk22 l.length (by omega); go_wp2_with fail; refine st 8 (S := fun w' => True) (ds := []) trivial (fun hHeld => ?_); generalize uu.drew = u0 at *; refine pq 0 ?_; refine pq 1 ?_; refine pq 3 ?_; refine pq 4 ?_; refine join_ (σ := Nat × Nat) 1 #[true, true, true, true, true, true, true, false] (fun s => [(17, .slice (some ⟨s.1, 0, none⟩) l.length l.length), (20, .slice (some ⟨s.2, 0, none⟩) l.length l.length), (5, .slice (some ⟨s.1, 0, none⟩) l.length l.length)]) (fun s w' => ScanSt w w' s.1 s.2 (scan0 l.length) (.slice none 0 0) l.length) ?_ (fun hJ => ?_); rotate_left
 · skip; refine two_ (i := 2) (j := 5) (Ni := some 17) (Nj := some 20) #[true, true, true, true, true, false, false, false] #[true, true, false, true, true, true, false, false] rfl rfl rfl rfl (by kernel_rfl) (by decide) (by decide) (fun K hK => ?_) (fun K hK => ?_)
   · skip; refine value_ (w1 := ?_) (v := ?_) (by rfl) rfl ?_ ?_; rotate_left 2
     · go_simp; constructor
       · rfl
       · rfl
     refine hK.out _ _ trivial (fun hHeld => ?_); clear hK K; refine nm ?_; refine pq 6 ?_; refine rg1 5 (fun K hK => ?_); refine value_ (w1 := ?_) (v := ?_) (by rfl) rfl ?_ ?_; rotate_left 2
     · go_simp; constructor
       · rfl
       · rfl
     refine hK.out _ _ trivial (fun hHeld => ?_); clear hK K; refine nm ?_; have hq := hJ (u0.heap.size, u0.heap.size + 1) _ (scan_made hbu.out l.length).1; simp only [putAll, Act.put, List.setIfInBounds_toArray, List.set_cons_zero, List.set_cons_succ] at hq; exact hq
   · skip; refine value_ (w1 := ?_) (v := ?_) (by rfl) rfl ?_ ?_; rotate_left 2
     · go_simp; constructor
       · rfl
       · rfl
     refine hK.out _ _ trivial (fun hHeld => ?_); clear hK K; refine nm ?_; refine rg1 2 (fun K hK => ?_); refine value_ (w1 := ?_) (v := ?_) (by rfl) rfl ?_ ?_; rotate_left 2
     · go_simp; constructor
       · rfl
       · rfl
     refine hK.out _ _ trivial (fun hHeld => ?_); clear hK K; refine nm ?_; refine pq 6 ?_; have hq := hJ (u0.heap.size + 1, u0.heap.size) _ (scan_made hbu.out l.length).2; simp only [putAll, Act.put, List.setIfInBounds_toArray, List.set_cons_zero, List.set_cons_succ] at hq; exact hq
 rintro ⟨gm, gh⟩ u9 F9; refine norm_ (a' := ?_) ?_ ?_; rotate_left
 · show putAll _ _ = _; simp only [putAll, Act.put, List.setIfInBounds_toArray, List.set_cons_zero, List.set_cons_succ]; rfl
 refine pq 7 ?_; refine dn ?_; replace F9 := ZZ (show ScanSt w u9 gm gh (scan0 l.length) (.slice none 0 0) l.length from F9); clear hHeld mk hbu hN; go_wp2_with fail; refine wp_label ?_; refine (by assumption : ∀ (a : Act) (w : World), _ → _) _ _ ?_; go_wp2_with fail; go_loopw [7, 23] (fun vs vi wr => ScRel w gm gh l vs vi wr) (fun _ vi _ => l.length - (intOf vi).toNat); case atStart => exact ⟨0, scan0 l.length, by omega, rfl, F9.out, by simp [scan0], by simp [scan0], rfl⟩
 case round =>
  obtain ⟨k, s, hk, rfl, hst, hS, hpos, heq⟩ := hrel; obtain ⟨Ar, cr, rfl, -⟩ := LRow.slice hst.row; by_cases hd : k < l.length
  · obtain ⟨x, hx⟩ : ∃ x, l[k]? = some x := ⟨_, GE hd⟩
    have b1 : ((k : Nat) : Int) < (l.length : Int) := by omega
    have b2 : decide (l.length ≤ k) = false := decide_eq_false (by omega); have b3 : (k : Int) ≤ 200 := by omega
    obtain ⟨ad, rfl, c0, c1, c2⟩ := (H0.out.step hst.bel).cells k x hx; have F1 := hst.step ((BR wr.heap.size wr).alloc (NR _) (.cells #[O Y x.o, O Y x.a, O Y x.b] 127)); obtain ⟨m0, -, m1, m2⟩ := F1.cm k hd; have F2 := F1.putM k (-1); obtain ⟨h0, -, h1, h2⟩ := F2.ch k hd; have F3 := F2.putH k (-1); have hgx : gm ≠ wr.heap.size ∧ gh ≠ wr.heap.size := ⟨by have := (ltA hst.m); omega, by have := (ltA hst.h); omega⟩
    have X3 : (((wr.alloc (.cells #[O Y x.o, O Y x.a, O Y x.b] 127)).setCell ⟨gm, k, none⟩ (O Y (-1))).setCell ⟨gh, k, none⟩ (O Y (-1))).heap[wr.heap.size]? = some (.cells #[O Y x.o, O Y x.a, O Y x.b] 127 (0, 0)) := (BH _ _ _ _ (by show wr.heap.size ≠ gh; exact fun e => hgx.2 e.symm)).trans ((BH _ _ _ _ (by show wr.heap.size ≠ gm; exact fun e => hgx.1 e.symm)).trans (heap_alloc_last wr _)); obtain ⟨W3, hW3⟩ : ∃ W3, ((wr.alloc (.cells #[O Y x.o, O Y x.a, O Y x.b] 127)).setCell ⟨gm, k, none⟩ (O Y (-1))).setCell ⟨gh, k, none⟩ (O Y (-1)) = W3 := ⟨_, rfl⟩
    rw [hW3] at F3 X3; have y0 := bk X3 0 (O Y x.o); have y1 := bk X3 1 (O Y x.a); have y2 := bk X3 2 (O Y x.b); replace heq := heq.trans (scanR_cons hx s); have hO := opening_any x.o x.a x.b; clear hx; by_cases hS0 : s.S = []
    · have hl0 : s.S.length = 0 := by rw [hS0]; rfl
      have htop : topA s.S = -1 := by rw [hS0]; rfl
      rw [hl0] at F3 ⊢; replace F3 : ScanSt w W3 gm gh ⟨s.M.set k (-1), s.H.set k (topA s.S), s.S⟩ (.slice Ar 0 cr) l.length := by rw [htop]; exact F3
      have hOw := ZZ (hO W3); replace F3 := ZZ F3; replace X3 := ZZ X3; replace heq := ZZ heq; replace hpos := ZZ hpos; clear hO hst F1 F2 hk; go_wp2_with fail; refine hOw.out.mono ?_; rintro e w5 ⟨rfl, hb5⟩; clear hW3 y0 y1 y2 hOw m1 m2 h1 h2 c0 c1 c2 hgx; have F5 := F3.out.step hb5; have X5 := (hb5.block _ (ltA X3.out)).trans X3.out; have y0 := bk X5 0 (O Y x.o); have y1 := bk X5 1 (O Y x.a); have y2 := bk X5 2 (O Y x.b); clear hb5 F3 X3; cases hop : openI x with
      | some e =>
       simp only [Option.getD_some, I3.val, Option.isSome_some]; replace F5 := ZZ F5; replace heq := ZZ (heq.out.trans (by unfold scan1; rw [hop])); clear y0 y1 y2 X5 hop; go_wp2_with (first | (at_builtin; refine wpList_append_one w (w5.alloc (.cells #[O Y e.o, O Y e.a, O Y e.b] 127)) w.heap.size rfl (.tmp 53) (.tmp 57) 259 261 (.agg #[O Y 0, O Y 0, O Y 0, O Y 0]) 4 32 rfl Tryz.underlying259 info261 rfl (by decide) (by decide) (.slice Ar 0 cr) s.S.length (s.S.flatMap regE) #[O Y (k : Int), O Y e.o, O Y e.a, O Y e.b] rfl (by show Value.slice (some ⟨w5.heap.size + 1, 0, none⟩) 1 1 = _; simp) rfl (by simp [Value.oneCell']) (LRow.step F5.out.row ((BR _ _).alloc (NR _) _)) (F5.out.bel.alloc F5.out.bel.size _) (NR _) (by omega) ?_; rintro A1 c1 w6 hrow6 hb6 - hg6) | fail)
       have Q := ScanSt.app (F5.out.step ((BR _ _).alloc (NR _) _)) ((k, e) : Nat × I3) A1 c1 _ hrow6 hb6 hg6; rw [List.length_append, List.length_singleton, hl0] at Q; refine ⟨⟨k + 1, _, hd, by go_num, Q, ?_, ?_, heq.out⟩, by simp [intOf]; omega⟩
       · simp only [List.length_append, List.length_singleton]; omega
       · intro r hr; rcases List.mem_append.1 hr with hr | hr
         · have := hpos.out r hr; omega
         · rw [List.mem_singleton.1 hr]; exact Nat.lt_succ_self k
      | none =>
       simp only [Option.getD_none, I3.val, Option.isSome_none]; have X6 := (Below.heap_alloc w5 (.cells #[O Y 0, O Y 0, O Y 0] 127) _ (ltA X5)).trans X5; have F6 := F5.step ((BR _ _).alloc (NR _) (.cells #[O Y 0, O Y 0, O Y 0] 127)); clear y0 y1 y2 X5 F5; have y0 := bk X6 0 (O Y x.o); have y1 := bk X6 1 (O Y x.a); have y2 := bk X6 2 (O Y x.b); by_cases h22 : x.o = 22
       · have e1 : (x.o == 22) = true := beq_iff_eq.mpr h22; have hno := ZZ (show scanR l 0 (scan0 l.length) = none from heq.out.trans (by unfold scan1; rw [hop, hS0]; simp [h22])); replace F6 := ZZ F6; clear heq hop X6; go_wp2_with fail; refine st 14 (S := fun w' => True) (ds := []) trivial (fun hHeld => ?_); refine pq 0 ?_; refine pq 1 ?_; refine pq 2 ?_; refine pq 3 ?_; refine po 4 ?_; refine po 5 ?_; refine po 6 ?_; refine po 7 ?_; refine po 8 ?_; refine po 9 ?_; refine po 10 ?_; refine po 11 ?_; refine po 12 ?_; refine pq 13 ?_; refine dn ?_; go_wp2_with fail; simp only [Exit.jump]; refine bodyPost_ret (results_tmp3 rfl _ _ _) rfl ?_; exact ⟨F6.out.bel.drew, by rw [show scanP l = none from by unfold scanP; rw [hno.out]]; rfl⟩
       · have e1 : (x.o == 22) = false := beq_eq_false_iff_ne.mpr h22; by_cases h24 : x.o = 24
         · have e2 : (x.o == 24) = true := beq_iff_eq.mpr h24; have e3 : (x.o != 22) = true := bne_iff_ne.mpr h22; have e4 : (x.o != 24) = false := by rw [h24]; rfl
           have hno := ZZ (show scanR l 0 (scan0 l.length) = none from heq.out.trans (by unfold scan1; rw [hop, hS0]; simp [h24])); replace F6 := ZZ F6; clear heq hop X6; go_wp2_with fail; refine st 14 (S := fun w' => True) (ds := []) trivial (fun hHeld => ?_); refine pq 0 ?_; refine pq 1 ?_; refine pq 2 ?_; refine pq 3 ?_; refine po 4 ?_; refine po 5 ?_; refine po 6 ?_; refine po 7 ?_; refine po 8 ?_; refine po 9 ?_; refine po 10 ?_; refine po 11 ?_; refine po 12 ?_; refine pq 13 ?_; refine dn ?_; go_wp2_with fail; simp only [Exit.jump]; refine bodyPost_ret (results_tmp3 rfl _ _ _) rfl ?_; exact ⟨F6.out.bel.drew, by rw [show scanP l = none from by unfold scanP; rw [hno.out]]; rfl⟩
         · have e2 : (x.o == 24) = false := beq_eq_false_iff_ne.mpr h24; have e3 : (x.o != 22) = true := bne_iff_ne.mpr h22; have e4 : (x.o != 24) = true := bne_iff_ne.mpr h24; replace heq := ZZ (show scanR l 0 (scan0 l.length) = scanR (l.drop (k + 1)) (k + 1) ⟨s.M.set k (-1), s.H.set k (topA s.S), s.S⟩ from heq.out.trans (by unfold scan1; rw [hop]; simp [h22, h24])); replace F6 := ZZ F6; clear hop; go_wp2_with fail; refine ⟨⟨k + 1, _, hd, by go_num, F6.out, by show s.S.length ≤ k + 1; omega, ?_, heq.out⟩, by simp [intOf]; omega⟩; intro r hr; have := hpos.out r hr; omega
    · obtain ⟨S1, r, hS1⟩ := snoc_of s.S hS0; have hl0 : s.S.length = S1.length + 1 := by rw [hS1]; simp
      have htop : topA s.S = (r.1 : Int) := by rw [hS1]; exact topA_snoc S1 r
      rw [hl0] at F3 ⊢; obtain ⟨gr, rfl, t0, -⟩ := F3.top hS1; obtain ⟨h00, -, n1, n2⟩ := F3.ch k hd; have F4 := F3.putH k (r.1 : Int); simp only [List.set_set, ← htop] at F4; have X4 : (W3.setCell ⟨gh, k, none⟩ (O Y (topA s.S))).heap[wr.heap.size]? = some (.cells #[O Y x.o, O Y x.a, O Y x.b] 127 (0, 0)) := (BH _ _ _ _ (by show wr.heap.size ≠ gh; exact fun e => hgx.2 e.symm)).trans X3; rw [htop] at X4; obtain ⟨W4, hW4⟩ : ∃ W4, W3.setCell ⟨gh, k, none⟩ (O Y (r.1 : Int)) = W4 := ⟨_, rfl⟩
      rw [htop, hW4] at F4; rw [hW4] at X4; replace F4 : ScanSt w W4 gm gh ⟨s.M.set k (-1), s.H.set k (topA s.S), s.S⟩ (.slice (some ⟨gr, 0, none⟩) (S1.length + 1) cr) l.length := by rw [htop]; exact F4
      clear y0 y1 y2 X3 F3; have y0 := bk X4 0 (O Y x.o); have y1 := bk X4 1 (O Y x.a); have y2 := bk X4 2 (O Y x.b); have hOw := ZZ (hO W4); have p1 : (0 : Int) < (S1.length : Int) + 1 := by omega
      have p2 : (S1.length : Int) ≤ 200 := by omega
      have p3 : wrap64 (S1.length : Int) = (S1.length : Int) := wrapIn (by omega); have p4 : (S1.length : Int) < (S1.length : Int) + 1 := by omega
      have p5 : (0 : Int) ≤ (S1.length : Int) := by omega
      replace F4 := ZZ F4; replace X4 := ZZ X4; replace heq := ZZ heq; replace hpos := ZZ hpos; clear hO hst F1 F2 hk; go_wp2_with fail; refine hOw.out.mono ?_; rintro e w5 ⟨rfl, hb5⟩; clear hW3 hW4 y0 y1 y2 hOw m1 m2 h1 h2 c0 c1 c2 hgx n1 n2 t0; have F5 := F4.out.step hb5; have X5 := (hb5.block _ (ltA X4.out)).trans X4.out; have y0 := bk X5 0 (O Y x.o); have y1 := bk X5 1 (O Y x.a); have y2 := bk X5 2 (O Y x.b); clear hb5 F4 X4; cases hop : openI x with
      | some e =>
       simp only [Option.getD_some, I3.val, Option.isSome_some]; replace F5 := ZZ F5; replace heq := ZZ (heq.out.trans (by unfold scan1; rw [hop])); clear y0 y1 y2 X5 hop; go_wp2_with (first | (at_builtin; refine wpList_append_one w (w5.alloc (.cells #[O Y e.o, O Y e.a, O Y e.b] 127)) w.heap.size rfl (.tmp 53) (.tmp 57) 259 261 (.agg #[O Y 0, O Y 0, O Y 0, O Y 0]) 4 32 rfl Tryz.underlying259 info261 rfl (by decide) (by decide) (.slice (some ⟨gr, 0, none⟩) (S1.length + 1) cr) s.S.length (s.S.flatMap regE) #[O Y (k : Int), O Y e.o, O Y e.a, O Y e.b] rfl (by show Value.slice (some ⟨w5.heap.size + 1, 0, none⟩) 1 1 = _; simp) rfl (by simp [Value.oneCell']) (LRow.step F5.out.row ((BR _ _).alloc (NR _) _)) (F5.out.bel.alloc F5.out.bel.size _) (NR _) (by omega) ?_; rintro A1 c1 w6 hrow6 hb6 - hg6) | fail)
       have Q := ScanSt.app (F5.out.step ((BR _ _).alloc (NR _) _)) ((k, e) : Nat × I3) A1 c1 _ hrow6 hb6 hg6; rw [List.length_append, List.length_singleton, hl0] at Q; refine ⟨⟨k + 1, _, hd, by go_num, Q, ?_, ?_, heq.out⟩, by simp [intOf]; omega⟩
       · simp only [List.length_append, List.length_singleton]; omega
       · intro r hr; rcases List.mem_append.1 hr with hr | hr
         · have := hpos.out r hr; omega
         · rw [List.mem_singleton.1 hr]; exact Nat.lt_succ_self k
      | none =>
       simp only [Option.getD_none, I3.val, Option.isSome_none]; have X6 := (Below.heap_alloc w5 (.cells #[O Y 0, O Y 0, O Y 0] 127) _ (ltA X5)).trans X5; have F6 := F5.step ((BR _ _).alloc (NR _) (.cells #[O Y 0, O Y 0, O Y 0] 127)); clear y0 y1 y2 X5 F5; have y0 := bk X6 0 (O Y x.o); have y1 := bk X6 1 (O Y x.a); have y2 := bk X6 2 (O Y x.b); by_cases h22 : x.o = 22
       · have e1 : (x.o == 22) = true := beq_iff_eq.mpr h22; obtain ⟨g', hg', t0, t1, t2, t3⟩ := F6.top hS1; injection hg' with hg'
         injection hg' with hg' _ _
         subst hg'; have F7 := (F6.step (BR _ _).drew).step (BR _ _).drew; replace F6 := ZZ F6; clear X6; by_cases he : eqI r.2 x = true
         · have he3 : r.2.o = x.o ∧ r.2.a = x.a ∧ r.2.b = x.b := by have h1 := he; unfold eqI at h1; simpa only [Bool.and_eq_true, beq_iff_eq] using h1
           have he2 : r.2.o = 22 ∧ r.2.a = x.a ∧ r.2.b = x.b := by have h1 := he; unfold eqI at h1; simp only [Bool.and_eq_true, beq_iff_eq] at h1; rw [h22] at h1; exact h1
           replace heq := ZZ (show scanR l 0 (scan0 l.length) = scanR (l.drop (k + 1)) (k + 1) ⟨((s.M.set k (-1)).set k (r.1 : Int)).set r.1 (k : Int), s.H.set k (topA s.S), S1⟩ from heq.out.trans (by unfold scan1; rw [hop, hS1]; simp [h22, he])); replace F7 := ZZ F7; replace he := ZZ he; replace h22 := ZZ h22; clear hop; go_wp2_with fail; refine st 14 (S := fun w' => w'.cell? ⟨wr.heap.size, 0, none⟩ = some (O Y x.o) ∧ w'.cell? ⟨wr.heap.size, 1, none⟩ = some (O Y x.a) ∧ w'.cell? ⟨wr.heap.size, 2, none⟩ = some (O Y x.b) ∧ w'.cell? ⟨gr, S1.length * 4 + 1, none⟩ = some (O Y r.2.o) ∧ w'.cell? ⟨gr, S1.length * 4 + 2, none⟩ = some (O Y r.2.a) ∧ w'.cell? ⟨gr, S1.length * 4 + 3, none⟩ = some (O Y r.2.b)) (ds := []) ⟨y0, y1, y2, t1, t2, t3⟩ (fun hHeld => ?_); refine pq 0 ?_; refine pq 1 ?_; refine pq 2 ?_; refine pq 3 ?_; refine pq 4 ?_; refine pq 5 ?_; refine pq 6 ?_; refine pq 7 ?_; refine pq 8 ?_; refine pq 9 ?_; refine tk 10 hHeld ?_; refine tk 11 hHeld ?_; refine pq 12 ?_ (v := .bool false) (hy := by intro w'; go_simp; all_goals first | exact he2 | exact he3 | omega); refine pq 13 ?_; refine dn ?_; clear t0 t1 t2 t3 y0 y1 y2 hHeld F6 he2 he3 e1; go_wp2_with fail; generalize w5.alloc (.cells #[O Y 0, O Y 0, O Y 0] 127) = w7 at *; replace F7 := F7.out; obtain ⟨a0, ha0, a1, -⟩ := F7.ch k hd; have ha : a0 = (r.1 : Int) := by
            have h1 : (s.H.set k (topA s.S))[k]? = some (topA s.S) := by rw [List.getElem?_set_self]; have := F7.lh; simp at this; omega
            have h2 := ha0.symm.trans h1; injection h2 with h2
            rw [h2, htop]
           subst ha; obtain ⟨_, -, m1, m2⟩ := F7.cm k hd; have F8 := F7.putM k (r.1 : Int); have hrk : r.1 < k := hpos.out r (by rw [hS1]; simp); obtain ⟨_, -, m3, m4⟩ := F8.cm r.1 (by omega); have F9 := F8.putM r.1 (k : Int); have q1 : (r.1 : Int) < (l.length : Int) := by omega
           have q2 : decide (l.length ≤ r.1) = false := decide_eq_false (by omega); obtain ⟨A', c', hv, hcap⟩ := LRow.slice F7.row; injection hv with hv1 hv2 hv
           subst hv; clear hv1 hv2; have hcap' : S1.length ≤ cr := by have := hcap; simp only at this; omega
           replace F7 := ZZ F7; replace F8 := ZZ F8; replace F9 := ZZ F9; replace m3 := ZZ (And.intro m3 m4); replace hrk := ZZ hrk; clear hcap ha0 m4; refine st 16 (S := fun w' => w'.cell? ⟨gh, k, none⟩ = some (O Y (r.1 : Int))) (ds := [13, 15]) a1 (fun hHeld => ?_); generalize w7.drew.drew = u0 at *; refine pq 0 ?_; refine pq 1 ?_; refine pq 2 ?_; refine pq 3 ?_; refine pq 4 ?_; refine pq 5 ?_; refine pq 7 ?_; refine pq 8 ?_; refine pq 9 ?_; refine pq 11 ?_; refine tk 6 hHeld ?_; refine tk 10 hHeld ?_; refine pq 12 ?_; refine rg2 13 (fun K hK => ?_); refine skip_ (w1 := ?_) (by rfl) rfl ?_ ?_; rotate_left
           · go_simp; rfl
           refine hK.out _ _ ?_; clear hK K; refine pq 14 ?_; refine rg2 15 (fun K hK => ?_); obtain ⟨m5, m6⟩ := m3.out; refine skip_ (w1 := ?_) (by rfl) rfl ?_ ?_; rotate_left
           · go_simp; rfl
           refine hK.out _ _ ?_; clear hK K; refine dn ?_; go_wp2_with fail; refine ⟨⟨k + 1, _, hd, by go_num, F9.out.pop hS1, by show S1.length ≤ k + 1; have := hS; omega, fun r2 hr2 => ?_, heq.out⟩, by simp [intOf]; omega⟩; have := hpos.out r2 (by rw [hS1]; exact List.mem_append_left _ hr2); omega
         · have he3 : ¬ (r.2.o = x.o ∧ r.2.a = x.a ∧ r.2.b = x.b) := fun h1 => he (by unfold eqI; simpa only [Bool.and_eq_true, beq_iff_eq] using h1); have he2 : ¬ (r.2.o = 22 ∧ r.2.a = x.a ∧ r.2.b = x.b) := fun h1 => he (by unfold eqI; simp only [Bool.and_eq_true, beq_iff_eq]; rw [h22]; exact h1); have hno := ZZ (show scanR l 0 (scan0 l.length) = none from heq.out.trans (by unfold scan1; rw [hop, hS1]; simp [h22, he])); replace he := ZZ he; replace h22 := ZZ h22; replace F7 := ZZ F7; clear hop heq; go_wp2_with fail; refine st 14 (S := fun w' => w'.cell? ⟨wr.heap.size, 0, none⟩ = some (O Y x.o) ∧ w'.cell? ⟨wr.heap.size, 1, none⟩ = some (O Y x.a) ∧ w'.cell? ⟨wr.heap.size, 2, none⟩ = some (O Y x.b) ∧ w'.cell? ⟨gr, S1.length * 4 + 1, none⟩ = some (O Y r.2.o) ∧ w'.cell? ⟨gr, S1.length * 4 + 2, none⟩ = some (O Y r.2.a) ∧ w'.cell? ⟨gr, S1.length * 4 + 3, none⟩ = some (O Y r.2.b)) (ds := []) ⟨y0, y1, y2, t1, t2, t3⟩ (fun hHeld => ?_); refine pq 0 ?_; refine pq 1 ?_; refine pq 2 ?_; refine pq 3 ?_; refine pq 4 ?_; refine pq 5 ?_; refine pq 6 ?_; refine pq 7 ?_; refine pq 8 ?_; refine pq 9 ?_; refine tk 10 hHeld ?_; refine tk 11 hHeld ?_; refine pq 12 ?_ (v := .bool true) (hy := by intro w'; go_simp; all_goals first | exact he2 | exact he3 | omega); refine pq 13 ?_; refine dn ?_; clear t0 t1 t2 t3 y0 y1 y2 hHeld; go_wp2_with fail; simp only [Exit.jump]; refine bodyPost_ret (results_tmp3 rfl _ _ _) rfl ?_; exact ⟨F6.out.bel.drew, by rw [show scanP l = none from by unfold scanP; rw [hno.out]]; rfl⟩
       · have e1 : (x.o == 22) = false := beq_eq_false_iff_ne.mpr h22; by_cases h24 : x.o = 24
         · have e2 : (x.o == 24) = true := beq_iff_eq.mpr h24; have e3 : (x.o != 22) = true := bne_iff_ne.mpr h22; have e4 : (x.o != 24) = false := by rw [h24]; rfl
           obtain ⟨g', hg', t0, t1, t2, t3⟩ := F6.top hS1; injection hg' with hg'
           injection hg' with hg' _ _
           subst hg'; have F7 := (F6.step (BR _ _).drew).step (BR _ _).drew; replace F6 := ZZ F6; clear X6; by_cases he : eqI r.2 x = true
           · have he3 : r.2.o = x.o ∧ r.2.a = x.a ∧ r.2.b = x.b := by have h1 := he; unfold eqI at h1; simpa only [Bool.and_eq_true, beq_iff_eq] using h1
             have he2 : r.2.o = 24 ∧ r.2.a = x.a ∧ r.2.b = x.b := by have h1 := he; unfold eqI at h1; simp only [Bool.and_eq_true, beq_iff_eq] at h1; rw [h24] at h1; exact h1
             replace heq := ZZ (show scanR l 0 (scan0 l.length) = scanR (l.drop (k + 1)) (k + 1) ⟨((s.M.set k (-1)).set k (r.1 : Int)).set r.1 (k : Int), s.H.set k (topA s.S), S1⟩ from heq.out.trans (by unfold scan1; rw [hop, hS1]; simp [h24, he])); replace F7 := ZZ F7; replace he := ZZ he; replace h24 := ZZ h24; clear hop; go_wp2_with fail; refine st 14 (S := fun w' => w'.cell? ⟨wr.heap.size, 0, none⟩ = some (O Y x.o) ∧ w'.cell? ⟨wr.heap.size, 1, none⟩ = some (O Y x.a) ∧ w'.cell? ⟨wr.heap.size, 2, none⟩ = some (O Y x.b) ∧ w'.cell? ⟨gr, S1.length * 4 + 1, none⟩ = some (O Y r.2.o) ∧ w'.cell? ⟨gr, S1.length * 4 + 2, none⟩ = some (O Y r.2.a) ∧ w'.cell? ⟨gr, S1.length * 4 + 3, none⟩ = some (O Y r.2.b)) (ds := []) ⟨y0, y1, y2, t1, t2, t3⟩ (fun hHeld => ?_); refine pq 0 ?_; refine pq 1 ?_; refine pq 2 ?_; refine pq 3 ?_; refine pq 4 ?_; refine pq 5 ?_; refine pq 6 ?_; refine pq 7 ?_; refine pq 8 ?_; refine pq 9 ?_; refine tk 10 hHeld ?_; refine tk 11 hHeld ?_; refine pq 12 ?_ (v := .bool false) (hy := by intro w'; go_simp; all_goals first | exact he2 | exact he3 | omega); refine pq 13 ?_; refine dn ?_; clear t0 t1 t2 t3 y0 y1 y2 hHeld F6 he2 he3 e1; go_wp2_with fail; generalize w5.alloc (.cells #[O Y 0, O Y 0, O Y 0] 127) = w7 at *; replace F7 := F7.out; obtain ⟨a0, ha0, a1, -⟩ := F7.ch k hd; have ha : a0 = (r.1 : Int) := by
              have h1 : (s.H.set k (topA s.S))[k]? = some (topA s.S) := by rw [List.getElem?_set_self]; have := F7.lh; simp at this; omega
              have h2 := ha0.symm.trans h1; injection h2 with h2
              rw [h2, htop]
             subst ha; obtain ⟨_, -, m1, m2⟩ := F7.cm k hd; have F8 := F7.putM k (r.1 : Int); have hrk : r.1 < k := hpos.out r (by rw [hS1]; simp); obtain ⟨_, -, m3, m4⟩ := F8.cm r.1 (by omega); have F9 := F8.putM r.1 (k : Int); have q1 : (r.1 : Int) < (l.length : Int) := by omega
             have q2 : decide (l.length ≤ r.1) = false := decide_eq_false (by omega); obtain ⟨A', c', hv, hcap⟩ := LRow.slice F7.row; injection hv with hv1 hv2 hv
             subst hv; clear hv1 hv2; have hcap' : S1.length ≤ cr := by have := hcap; simp only at this; omega
             replace F7 := ZZ F7; replace F8 := ZZ F8; replace F9 := ZZ F9; replace m3 := ZZ (And.intro m3 m4); replace hrk := ZZ hrk; clear hcap ha0 m4; refine st 16 (S := fun w' => w'.cell? ⟨gh, k, none⟩ = some (O Y (r.1 : Int))) (ds := [13, 15]) a1 (fun hHeld => ?_); generalize w7.drew.drew = u0 at *; refine pq 0 ?_; refine pq 1 ?_; refine pq 2 ?_; refine pq 3 ?_; refine pq 4 ?_; refine pq 5 ?_; refine pq 7 ?_; refine pq 8 ?_; refine pq 9 ?_; refine pq 11 ?_; refine tk 6 hHeld ?_; refine tk 10 hHeld ?_; refine pq 12 ?_; refine rg2 13 (fun K hK => ?_); refine skip_ (w1 := ?_) (by rfl) rfl ?_ ?_; rotate_left
             · go_simp; rfl
             refine hK.out _ _ ?_; clear hK K; refine pq 14 ?_; refine rg2 15 (fun K hK => ?_); obtain ⟨m5, m6⟩ := m3.out; refine skip_ (w1 := ?_) (by rfl) rfl ?_ ?_; rotate_left
             · go_simp; rfl
             refine hK.out _ _ ?_; clear hK K; refine dn ?_; go_wp2_with fail; refine ⟨⟨k + 1, _, hd, by go_num, F9.out.pop hS1, by show S1.length ≤ k + 1; have := hS; omega, fun r2 hr2 => ?_, heq.out⟩, by simp [intOf]; omega⟩; have := hpos.out r2 (by rw [hS1]; exact List.mem_append_left _ hr2); omega
           · have he3 : ¬ (r.2.o = x.o ∧ r.2.a = x.a ∧ r.2.b = x.b) := fun h1 => he (by unfold eqI; simpa only [Bool.and_eq_true, beq_iff_eq] using h1); have he2 : ¬ (r.2.o = 24 ∧ r.2.a = x.a ∧ r.2.b = x.b) := fun h1 => he (by unfold eqI; simp only [Bool.and_eq_true, beq_iff_eq]; rw [h24]; exact h1); have hno := ZZ (show scanR l 0 (scan0 l.length) = none from heq.out.trans (by unfold scan1; rw [hop, hS1]; simp [h24, he])); replace he := ZZ he; replace h24 := ZZ h24; replace F7 := ZZ F7; clear hop heq; go_wp2_with fail; refine st 14 (S := fun w' => w'.cell? ⟨wr.heap.size, 0, none⟩ = some (O Y x.o) ∧ w'.cell? ⟨wr.heap.size, 1, none⟩ = some (O Y x.a) ∧ w'.cell? ⟨wr.heap.size, 2, none⟩ = some (O Y x.b) ∧ w'.cell? ⟨gr, S1.length * 4 + 1, none⟩ = some (O Y r.2.o) ∧ w'.cell? ⟨gr, S1.length * 4 + 2, none⟩ = some (O Y r.2.a) ∧ w'.cell? ⟨gr, S1.length * 4 + 3, none⟩ = some (O Y r.2.b)) (ds := []) ⟨y0, y1, y2, t1, t2, t3⟩ (fun hHeld => ?_); refine pq 0 ?_; refine pq 1 ?_; refine pq 2 ?_; refine pq 3 ?_; refine pq 4 ?_; refine pq 5 ?_; refine pq 6 ?_; refine pq 7 ?_; refine pq 8 ?_; refine pq 9 ?_; refine tk 10 hHeld ?_; refine tk 11 hHeld ?_; refine pq 12 ?_ (v := .bool true) (hy := by intro w'; go_simp; all_goals first | exact he2 | exact he3 | omega); refine pq 13 ?_; refine dn ?_; clear t0 t1 t2 t3 y0 y1 y2 hHeld; go_wp2_with fail; simp only [Exit.jump]; refine bodyPost_ret (results_tmp3 rfl _ _ _) rfl ?_; exact ⟨F6.out.bel.drew, by rw [show scanP l = none from by unfold scanP; rw [hno.out]]; rfl⟩
         · have e2 : (x.o == 24) = false := beq_eq_false_iff_ne.mpr h24; have e3 : (x.o != 22) = true := bne_iff_ne.mpr h22; have e4 : (x.o != 24) = true := bne_iff_ne.mpr h24; replace heq := ZZ (show scanR l 0 (scan0 l.length) = scanR (l.drop (k + 1)) (k + 1) ⟨s.M.set k (-1), s.H.set k (topA s.S), s.S⟩ from heq.out.trans (by unfold scan1; rw [hop]; simp [h22, h24])); replace F6 := ZZ F6; clear hop; go_wp2_with fail; refine ⟨⟨k + 1, _, hd, by go_num, F6.out, by show s.S.length ≤ k + 1; omega, ?_, heq.out⟩, by simp [intOf]; omega⟩; intro r hr; have := hpos.out r hr; omega
  · have hke : k = l.length := by omega
    subst hke; have b1 : ¬ (((l.length : Nat) : Int) < (l.length : Int)) := by omega
    rw [List.drop_length, scanR] at heq; by_cases hS0 : s.S = []
    · have hl0 : s.S.length = 0 := by rw [hS0]; rfl
      rw [hl0]; have hP := ZZ (show scanP l = some (s.M, s.H) from by unfold scanP; rw [heq]; exact if_pos hS0); clear heq hk hd; replace hst := ZZ hst; go_wp2_with fail; simp only [Exit.jump]; refine bodyPost_ret (results_tmp3 rfl _ _ _) rfl ?_; refine ⟨hst.out.bel, ?_⟩; rw [hP.out]; exact ⟨gm, gh, rfl, hst.out.lm, hst.out.lh, hst.out.m, hst.out.h⟩
    · obtain ⟨S1, r, hS1⟩ := snoc_of s.S hS0; have hl0 : s.S.length = S1.length + 1 := by rw [hS1]; simp
      rw [hl0]; have hP := ZZ (show scanP l = none from by unfold scanP; rw [heq]; exact if_neg hS0); have p1 : (0 : Int) < (S1.length : Int) + 1 := by omega
      have p2 : (S1.length : Int) ≤ 200 := by omega
      clear heq hk hd; replace hst := ZZ hst; go_wp2_with fail; simp only [Exit.jump]; refine bodyPost_ret (results_tmp3 rfl _ _ _) rfl ?_; exact ⟨hst.out.bel, by rw [hP.out]; rfl⟩
end
end Go.Proofs.YtoopeamoejmjeaaGreat.Tp
