/- Steps of the walk, merged and shortened by a program (fit.py). -/
import Derived.Laws.EntriesVeiled
import Derived.Lib.Hide
import Derived.Test.YtoopeamoejmjeaaGreatA01
import Derived.Test.YtoopeamoejmjeaaGreatA02
import Derived.Test.YtoopeamoejmjeaaGreatA10
import Derived.Test.YtoopeamoejmjeaaGreatWCut
set_option linter.unusedVariables false
set_option linter.unusedSimpArgs false
set_option maxRecDepth 100000
set_option maxHeartbeats 4000000
open Nat renaming le_refl → NR
open List renaming getElem?_eq_getElem → GE
open Go.RowKit.Below renaming refl → BR
open ByteArray renaming empty → BE
open List renaming getD_eq_getElem?_getD → GD
open Array renaming mem_of_getElem? → AM
open List renaming mem_of_getElem? → LM
open List renaming getElem?_eq_some_iff → GI
open List renaming map_toArray → MA
open Go.RowKit.Below renaming heap_setCell → BH
open Go.Lib renaming hid → ZZ
open Go.Value renaming int → O
open Go.IntKind renaming i64 → Y
namespace Go.Proofs.YtoopeamoejmjeaaGreat.Tp
open RowKit YtoopeamoejmjeaaGreatW.PrintWords YtoopeamoejmjeaaGreatW.PrintLast YtoopeamoejmjeaaGreatW.PrintMore Tm
def ceilF (c : List Int) (u : UseD) (b _ : Int) : List Int := c.set b.toNat (maxC (c.getD b.toNat 0) u.prio)
structure CeI (w0 : World) (gs ga nb : Nat) (c : List Int) (W : World) : Prop where
 bel : Below w0.heap.size w0 W
 s : W.heap[gs]? = some (.cells #[.slice (some ⟨ga, 0, none⟩) nb nb] 22 (0, 0))
 a : W.heap[ga]? = some (.cells (arrI c) 3 (0, 0))
 len : c.length = nb
 lo : w0.heap.size ≤ gs ∧ w0.heap.size ≤ ga
theorem CeI.step {w0 W W' : World} {gs ga nb : Nat} {c : List Int} (h : CeI w0 gs ga nb c W) (hb : Below W.heap.size W W') : CeI w0 gs ga nb c W' :=
 ⟨h.bel.trans (hb.mono h.bel.size), (hb.block _ (ltA h.s)).trans h.s, (hb.block _ (ltA h.a)).trans h.a, h.len, h.lo⟩
theorem CeI.put {w0 W : World} {gs ga nb : Nat} {c : List Int} (h : CeI w0 gs ga nb c W) (k : Nat) (x : Int) : CeI w0 gs ga nb (c.set k x) (W.setCell ⟨ga, k, none⟩ (O Y x)) :=
 ⟨h.bel.setCell (by exact h.lo.2) _, (BH _ _ _ _ (by exact cells_ne h.s h.a (by decide))).trans h.s, by rw [← arrI_set]; exact blk_set h.a k _, by simp [h.len], h.lo⟩
theorem ceil1_any (w0 W : World) (gs ga nb : Nat) (c : List Int) (vu : Value) (u : UseD) (b n : Int) (h : CeI w0 gs ga nb c W) (hu : UseAt W vu u) (hb : 0 ≤ b ∧ b < (nb : Int)) (hnb : nb ≤ 8) : Calls Tryz.prog 70 #[vu, O Y b, O Y n, .pointer (some ⟨gs, 0, none⟩)] W fun e W' => e = .returned (.tuple #[]) ∧ CeI w0 gs ga nb (ceilF c u b n) W' ∧ Keeps [ga] W W' := by
 obtain ⟨Ab, An, cb, cn, rfl, h1, h2⟩ := hu; have hbl := heap_alloc_last W (.cells #[O Y u.prio, .slice Ab u.blocks.length cb, .slice An u.lens.length cn] 47); have al := (BR W.heap.size W).alloc (NR _) (.cells #[O Y u.prio, .slice Ab u.blocks.length cb, .slice An u.lens.length cn] 47); obtain ⟨W1, hW1⟩ : ∃ W1, W.alloc (.cells #[O Y u.prio, .slice Ab u.blocks.length cb, .slice An u.lens.length cn] 47) = W1 := ⟨_, rfl⟩
 rw [hW1] at hbl al; obtain ⟨k, rfl⟩ := Int.eq_ofNat_of_zero_le hb.1; have hk : k < nb := by omega
 have b1 : ((k : Nat) : Int) < (nb : Int) := hb.2; have b2 : decide (nb ≤ k) = false := decide_eq_false (by omega); have b3 : (k : Int) ≤ 8 := by omega
 have hd := h.step al.drew; have s0 : W1.drew.cell? _ = _ := bk hd.s 0 (.slice (some ⟨ga, 0, none⟩) nb nb); have a0 : W1.drew.cell? _ = _ := (blk_cell hd.a k).trans (arrI_get _ _ _ (getD_some 0 (by rw [h.len]; exact hk))); have a1 : W1.drew.frozen? _ = false := blk_frozen hd.a k; have y0 : W1.drew.cell? _ = _ := bk hbl 0 (O Y u.prio); obtain ⟨cv, hcv⟩ : ∃ cv, c.getD k 0 = cv := ⟨_, rfl⟩
 rw [hcv] at a0; have hF := hd.put k (maxC cv u.prio); have hP := ((Keeps.of_below al.drew [ga])).setCell ga k (O Y (maxC cv u.prio)) (.inl (by simp)); have hR : ceilF c u (k : Int) n = c.set k (maxC cv u.prio) := by unfold ceilF; rw [Int.toNat_natCast, hcv]
 rw [hR]; replace hF := ZZ hF; replace hP := ZZ hP; replace hk := ZZ hk; clear hd h h1 h2 hR hcv hb al hbl; by_cases hc : cv < u.prio
 · rw [show maxC cv u.prio = u.prio from if_pos hc] at hF hP ⊢; have hc2 : ¬ (u.prio ≤ cv) := by omega
   go_enter Tryz.func70, Tryz.ntmps70; go_wp2_with fail; refine st 11 (S := fun w' => w'.cell? ⟨gs, 0, none⟩ = some (.slice (some ⟨ga, 0, none⟩) nb nb) ∧ w'.cell? ⟨ga, k, none⟩ = some (O Y cv) ∧ w'.cell? ⟨W.heap.size, 0, none⟩ = some (O Y u.prio)) (ds := [10]) ⟨s0, a0, y0⟩ (fun hHeld => ?_); generalize W1.drew = u0 at *; refine pq 1 ?_; refine pq 3 ?_; refine pq 6 ?_; refine tk 0 hHeld ?_; refine tk 2 hHeld ?_; refine pq 4 ?_; refine tk 5 hHeld ?_; refine tk 7 hHeld ?_; refine pq 8 ?_; refine pq 9 ?_; refine rg2 10 (fun K hK => ?_); refine skip_ (w1 := ?_) (by rfl) rfl ?_ ?_; rotate_left
   · go_simp; rfl
   refine hK.out _ _ ?_; clear hK K; refine dn ?_; go_wp2_with fail; go_end0; exact ⟨rfl, hF.out, hP.out⟩
 · rw [show maxC cv u.prio = cv from if_neg hc] at hF hP ⊢; have hc2 : u.prio ≤ cv := by omega
   go_enter Tryz.func70, Tryz.ntmps70; go_wp2_with fail; refine st 11 (S := fun w' => w'.cell? ⟨gs, 0, none⟩ = some (.slice (some ⟨ga, 0, none⟩) nb nb) ∧ w'.cell? ⟨ga, k, none⟩ = some (O Y cv) ∧ w'.cell? ⟨W.heap.size, 0, none⟩ = some (O Y u.prio)) (ds := [10]) ⟨s0, a0, y0⟩ (fun hHeld => ?_); generalize W1.drew = u0 at *; refine pq 1 ?_; refine pq 3 ?_; refine pq 6 ?_; refine tk 0 hHeld ?_; refine tk 2 hHeld ?_; refine pq 4 ?_; refine tk 5 hHeld ?_; refine tk 7 hHeld ?_; refine pq 8 ?_; refine pq 9 ?_; refine rg2 10 (fun K hK => ?_); refine skip_ (w1 := ?_) (by rfl) rfl ?_ ?_; rotate_left
   · go_simp; rfl
   refine hK.out _ _ ?_; clear hK K; refine dn ?_; go_wp2_with fail; go_end0; exact ⟨rfl, hF.out, hP.out⟩
def waitF (c : List Int) (own : Int) (n : Int) (u : UseD) (b long : Int) : Int := if u.prio < own ∧ own ≤ c.getD b.toNat 0 then maxC n long else n
structure WaI (w0 : World) (go gs ga gn nb : Nat) (c : List Int) (own : Int) (n : Int) (W : World) : Prop where
 bel : Below w0.heap.size w0 W
 o : ∃ vb vn, W.heap[go]? = some (.cells #[O Y own, vb, vn] 47 (0, 0))
 s : W.heap[gs]? = some (.cells #[.slice (some ⟨ga, 0, none⟩) nb nb] 22 (0, 0))
 a : W.heap[ga]? = some (.cells (arrI c) 3 (0, 0))
 n : W.heap[gn]? = some (.cells #[O Y n] 3 (0, 0))
 len : c.length = nb
 ne : ga ≠ gn
 lo : w0.heap.size ≤ gn
theorem WaI.step {w0 W W' : World} {go gs ga gn nb : Nat} {c : List Int} {own n : Int} (h : WaI w0 go gs ga gn nb c own n W) (hb : Below W.heap.size W W') : WaI w0 go gs ga gn nb c own n W' := by
 have k := fun {g : Nat} {o : Obj} (e : W.heap[g]? = some o) => (hb.block g (ltA e)).trans e; obtain ⟨vb, vn, ho⟩ := h.o; exact ⟨h.bel.trans (hb.mono h.bel.size), ⟨vb, vn, k ho⟩, k h.s, k h.a, k h.n, h.len, h.ne, h.lo⟩
theorem WaI.put {w0 W : World} {go gs ga gn nb : Nat} {c : List Int} {own n : Int} (h : WaI w0 go gs ga gn nb c own n W) (x : Int) : WaI w0 go gs ga gn nb c own x (W.setCell ⟨gn, 0, none⟩ (O Y x)) := by
 obtain ⟨vb, vn, ho⟩ := h.o; exact ⟨h.bel.setCell (by exact h.lo) _, ⟨vb, vn, (BH _ _ _ _ (by exact cells_ne ho h.n (by decide))).trans ho⟩, (BH _ _ _ _ (by exact cells_ne h.s h.n (by decide))).trans h.s, (BH _ _ _ _ (by exact h.ne)).trans h.a, blk_set h.n 0 _, h.len, h.ne, h.lo⟩
theorem wait1_any (w0 W : World) (go gs ga gn nb : Nat) (c : List Int) (own nv : Int) (vu : Value) (u : UseD) (b n : Int) (h : WaI w0 go gs ga gn nb c own nv W) (hu : UseAt W vu u) (hb : 0 ≤ b ∧ b < (nb : Int)) (hnb : nb ≤ 8) : Calls Tryz.prog 37 #[vu, O Y b, O Y n, .pointer (some ⟨go, 0, none⟩), .pointer (some ⟨gs, 0, none⟩), .pointer (some ⟨gn, 0, none⟩)] W fun e W' => e = .returned (.tuple #[]) ∧ WaI w0 go gs ga gn nb c own (waitF c own nv u b n) W' ∧ Keeps [gn] W W' := by
 obtain ⟨Ab, An, cb, cn, rfl, h1, h2⟩ := hu; have hbl := heap_alloc_last W (.cells #[O Y u.prio, .slice Ab u.blocks.length cb, .slice An u.lens.length cn] 47); have al := (BR W.heap.size W).alloc (NR _) (.cells #[O Y u.prio, .slice Ab u.blocks.length cb, .slice An u.lens.length cn] 47); obtain ⟨W1, hW1⟩ : ∃ W1, W.alloc (.cells #[O Y u.prio, .slice Ab u.blocks.length cb, .slice An u.lens.length cn] 47) = W1 := ⟨_, rfl⟩
 rw [hW1] at hbl al; obtain ⟨k, rfl⟩ := Int.eq_ofNat_of_zero_le hb.1; have hk : k < nb := by omega
 have b1 : ((k : Nat) : Int) < (nb : Int) := hb.2; have b2 : decide (nb ≤ k) = false := decide_eq_false (by omega); have b3 : (k : Int) ≤ 8 := by omega
 have hd := h.step al.drew; have hP0 := (Keeps.of_below al.drew [gn])
 have s0 : W1.drew.cell? _ = _ := bk hd.s 0 (.slice (some ⟨ga, 0, none⟩) nb nb); have a0 : W1.drew.cell? _ = _ := (blk_cell hd.a k).trans (arrI_get _ _ _ (getD_some 0 (by rw [h.len]; exact hk))); obtain ⟨vb, vn, ho⟩ := hd.o; have o0 : W1.drew.cell? _ = _ := bk ho 0 (O Y own); have y0 : W1.drew.cell? _ = _ := bk hbl 0 (O Y u.prio); obtain ⟨cv, hcv⟩ : ∃ cv, c.getD k 0 = cv := ⟨_, rfl⟩
 rw [hcv] at a0; have hR : waitF c own nv u (k : Int) n = if u.prio < own ∧ own ≤ cv then maxC nv n else nv := by unfold waitF; rw [Int.toNat_natCast, hcv]
 rw [hR]; clear hR h h1 h2 hcv hb al hbl ho; replace hk := ZZ hk; by_cases p1 : u.prio < own
 · by_cases p2 : own ≤ cv
   · rw [if_pos ⟨p1, p2⟩]; have n0 : W1.drew.cell? _ = _ := bk hd.n 0 (O Y nv); have n1 : W1.drew.frozen? _ = false := blk_frozen hd.n 0; have hF := hd.put (maxC nv n); have hP := hP0.setCell gn 0 (O Y (maxC nv n)) (.inl (by simp)); by_cases hc : nv < n
     · have hm : maxC nv n = n := if_pos hc; have hc2 : ¬ (n ≤ nv) := by omega
       rw [hm] at hF hP ⊢; replace hF := ZZ hF; replace hP := ZZ hP; replace hd := ZZ hd; go_enter Tryz.func37, Tryz.ntmps37; go_wp2_with fail; refine st 14 (S := fun w' => w'.cell? ⟨W.heap.size, 0, none⟩ = some (O Y u.prio) ∧ w'.cell? ⟨go, 0, none⟩ = some (O Y own) ∧ w'.cell? ⟨gs, 0, none⟩ = some (.slice (some ⟨ga, 0, none⟩) nb nb) ∧ w'.cell? ⟨ga, k, none⟩ = some (O Y cv)) (ds := []) ⟨y0, o0, s0, a0⟩ (fun hHeld => ?_); generalize W1.drew = u0 at *; refine pq 0 ?_; refine pq 2 ?_; refine tk 1 hHeld ?_; refine tk 3 hHeld ?_; refine pq 4 ?_; refine pq 5 ?_; refine pq 7 ?_; refine pq 10 ?_; refine tk 6 hHeld ?_; refine pq 8 ?_; refine tk 9 hHeld ?_; refine tk 11 hHeld ?_; refine pq 12 ?_; refine pq 13 ?_; refine dn ?_; clear hHeld y0 o0 s0 a0; go_wp2_with fail; go_end0; exact ⟨rfl, hF.out, hP.out⟩
     · have hm : maxC nv n = nv := if_neg hc; have hc2 : n ≤ nv := by omega
       rw [hm] at hF hP ⊢; replace hF := ZZ hF; replace hP := ZZ hP; replace hd := ZZ hd; go_enter Tryz.func37, Tryz.ntmps37; go_wp2_with fail; refine st 14 (S := fun w' => w'.cell? ⟨W.heap.size, 0, none⟩ = some (O Y u.prio) ∧ w'.cell? ⟨go, 0, none⟩ = some (O Y own) ∧ w'.cell? ⟨gs, 0, none⟩ = some (.slice (some ⟨ga, 0, none⟩) nb nb) ∧ w'.cell? ⟨ga, k, none⟩ = some (O Y cv)) (ds := []) ⟨y0, o0, s0, a0⟩ (fun hHeld => ?_); generalize W1.drew = u0 at *; refine pq 0 ?_; refine pq 2 ?_; refine tk 1 hHeld ?_; refine tk 3 hHeld ?_; refine pq 4 ?_; refine pq 5 ?_; refine pq 7 ?_; refine pq 10 ?_; refine tk 6 hHeld ?_; refine pq 8 ?_; refine tk 9 hHeld ?_; refine tk 11 hHeld ?_; refine pq 12 ?_; refine pq 13 ?_; refine dn ?_; clear hHeld y0 o0 s0 a0; go_wp2_with fail; go_end0; exact ⟨rfl, hF.out, hP.out⟩
   · rw [if_neg (fun e => p2 e.2)]; have p3 : decide (own ≤ cv) = false := decide_eq_false p2; replace hd := ZZ hd; replace hP0 := ZZ hP0; go_enter Tryz.func37, Tryz.ntmps37; go_wp2_with fail; refine st 14 (S := fun w' => w'.cell? ⟨W.heap.size, 0, none⟩ = some (O Y u.prio) ∧ w'.cell? ⟨go, 0, none⟩ = some (O Y own) ∧ w'.cell? ⟨gs, 0, none⟩ = some (.slice (some ⟨ga, 0, none⟩) nb nb) ∧ w'.cell? ⟨ga, k, none⟩ = some (O Y cv)) (ds := []) ⟨y0, o0, s0, a0⟩ (fun hHeld => ?_); generalize W1.drew = u0 at *; refine pq 0 ?_; refine pq 2 ?_; refine tk 1 hHeld ?_; refine tk 3 hHeld ?_; refine pq 4 ?_; refine pq 5 ?_; refine pq 7 ?_; refine pq 10 ?_; refine tk 6 hHeld ?_; refine pq 8 ?_; refine tk 9 hHeld ?_; refine tk 11 hHeld ?_; refine pq 12 ?_; refine pq 13 ?_; refine dn ?_; go_wp2_with fail; go_end0; exact ⟨rfl, hd.out, hP0.out⟩
 · rw [if_neg (fun e => p1 e.1)]; have p3 : decide (u.prio < own) = false := decide_eq_false p1; replace hd := ZZ hd; replace hP0 := ZZ hP0; go_enter Tryz.func37, Tryz.ntmps37; go_wp2_with fail; refine st 14 (S := fun w' => w'.cell? ⟨W.heap.size, 0, none⟩ = some (O Y u.prio) ∧ w'.cell? ⟨go, 0, none⟩ = some (O Y own)) (ds := []) ⟨y0, o0⟩ (fun hHeld => ?_); generalize W1.drew = u0 at *; refine pq 0 ?_; refine pq 2 ?_; refine tk 1 hHeld ?_; refine tk 3 hHeld ?_; refine pq 4 ?_; refine pq 5 ?_; refine po 7 ?_; refine po 10 ?_; refine po 6 ?_; refine po 8 ?_; refine po 9 ?_; refine po 11 ?_; refine po 12 ?_; refine pq 13 ?_; refine dn ?_; go_wp2_with fail; go_end0; exact ⟨rfl, hd.out, hP0.out⟩
def ceilP (nb : Nat) (L : List UseD) : List Int := foldL ceilF L (List.replicate nb 0)
def waitP (c : List Int) (L : List UseD) (own : Int) : Int := foldL (waitF c own) L 0
def waitsP (nb : Nat) (L : List UseD) : List Int := L.map (fun u => waitP (ceilP nb L) L u.prio)
theorem useOk_in {nb : Nat} {u : UseD} (h : UseOk nb u) {b : Int} (hb : b ∈ u.blocks) : 0 ≤ b ∧ b < (nb : Int) := by
 obtain ⟨i, hi⟩ := List.mem_iff_getElem?.1 hb; have := h.ris i b hi; exact ⟨this.1, this.2.1⟩
theorem foldB_len {nb : Nat} (u : UseD) : ∀ (bl nl : List Int) (c : List Int), c.length = nb → (foldB ceilF u bl nl c).length = nb := by
 intro bl; induction bl with
 | nil => intro nl c h; cases nl <;> simpa [foldB] using h
 | cons b bl ih =>
  intro nl c h; cases nl with
  | nil => simpa [foldB] using h
  | cons n nl => rw [foldB]; exact ih nl _ (by unfold ceilF; simpa using h)
theorem foldL_len {nb : Nat} : ∀ (L : List UseD) (c : List Int), c.length = nb → (foldL ceilF L c).length = nb := by
 intro L; induction L with
 | nil => intro c h; exact h
 | cons u L ih => intro c h; rw [foldL]; exact ih _ (foldB_len u _ _ _ h)
theorem ceilings_any (v : Value) (L : List UseD) (nb : Nat) (w : World) (h : UsesAt w v L) (hu : ∀ u ∈ L, UseOk nb u) (hL : L.length ≤ 8) (hnb : nb ≤ 8) : Calls Tryz.prog 35 #[O Y (nb : Int), v] w fun e w' => (∃ vc, e = .returned vc ∧ ArrAt w' vc (ceilP nb L) nb) ∧ Below w.heap.size w w' := by
 have hR := ZZ (cright_any v L nb w h hu hL hnb); replace h := ZZ h; replace hu := ZZ hu; have mk := mk22 nb (by omega); go_enter Tryz.func35, Tryz.ntmps35; go_wp2_with fail; refine hR.out.mono ?_; rintro e w1 ⟨rfl, hb1⟩; have hU1 := h.out.step hb1; have a1 := (BR w1.heap.size w1).alloc (NR _) (.cells (arrI (List.replicate nb 0)) 3); have m1 := heap_alloc_last w1 (.cells (arrI (List.replicate nb 0)) 3); obtain ⟨w2, e2⟩ : ∃ w2, w1.alloc (.cells (arrI (List.replicate nb 0)) 3) = w2 := ⟨_, rfl⟩
 have s2 : w2.heap.size = w1.heap.size + 1 := by rw [← e2, World.size_alloc]
 rw [e2] at a1 m1; have a2 := (BR w2.heap.size w2).alloc (NR _) (.cells #[.slice (some ⟨w1.heap.size, 0, none⟩) nb nb] 22); have m2 := heap_alloc_last w2 (.cells #[.slice (some ⟨w1.heap.size, 0, none⟩) nb nb] 22); have m1' := (a2.block _ (ltA m1)).trans m1; have hCI : CeI w1 (w1.heap.size + 1) w1.heap.size nb (List.replicate nb 0) (w2.alloc (.cells #[.slice (some ⟨w1.heap.size, 0, none⟩) nb nb] 22)) := ⟨a1.trans (a2.mono (by omega)), by rw [← s2]; exact m2, m1', by simp, by omega, by omega⟩
 have hsz : (w2.alloc (.cells #[.slice (some ⟨w1.heap.size, 0, none⟩) nb nb] 22)).heap.size = w1.heap.size + 2 := by rw [World.size_alloc, s2]
 obtain ⟨W3, e3⟩ : ∃ W3, w2.alloc (.cells #[.slice (some ⟨w1.heap.size, 0, none⟩) nb nb] 22) = W3 := ⟨_, rfl⟩
 rw [e3] at hCI hsz; have hEa := each_any ceilF (fun c W => CeI w1 (w1.heap.size + 1) w1.heap.size nb c W) [w1.heap.size] 70 #[.pointer (some ⟨w1.heap.size + 1, 0, none⟩)] (enters_ (P := Tryz.prog) Tryz.func70 rfl rfl) w1 W3 v L hU1 hL (fun u hm => ⟨(hu.out u hm).len, (hu.out u hm).bl⟩) (fun s W hI => hI.bel) (fun s W W' hI hb => hI.step hb) (by simp; omega) (fun s u b n W vu hm hb hn hI hv => ceil1_any w1 W _ _ nb s vu u b n hI hv (useOk_in (hu.out u hm) hb) hnb) (List.replicate nb 0) hCI; replace hEa := ZZ hEa; have e23 : (w1.alloc (.cells (arrI (List.replicate nb 0)) 3)).alloc (.cells #[.slice (some ⟨w1.heap.size, 0, none⟩) nb nb] 22) = W3 := by rw [e2, e3]
 replace e23 := ZZ e23; replace hb1 := ZZ hb1; clear a1 m1 a2 m2 m1' hCI e2 e3 s2 hsz hR hU1; go_wp2_with fail; rw [e23.out]; refine hEa.out.mono ?_; rintro e w5 ⟨rfl, hC5, -⟩; have s0 := bk hC5.s 0 (.slice (some ⟨w1.heap.size, 0, none⟩) nb nb); replace hC5 := ZZ hC5; clear hEa e23 mk; go_wp2_with fail; go_ret; exact ⟨⟨_, rfl, w1.heap.size, rfl, foldL_len L _ (by simp), hC5.out.a⟩, hb1.out.trans (hC5.out.bel.mono hb1.out.size)⟩
theorem LRow.base0 {w : World} {base e size n : Nat} {v : Value} {xs : List Value} (h : LRow w base e size v n xs) : LRow w 0 e size v n xs := by
 obtain ⟨h1, h2⟩ := h; refine ⟨h1, ?_⟩; rcases h2 with h2 | ⟨g, cap, cur, h3, h4, h5⟩
 · exact .inl h2
 · exact .inr ⟨g, cap, cur, h3, Nat.zero_le _, h5⟩
def OwnI (W : World) (v : Value) (l : List Int) : Prop := LRow W 0 3 1 v l.length (l.map (O Y)) ∧ l.length ≤ 1000
theorem OwnI.ints {W : World} {v : Value} {l : List Int} (h : OwnI W v l) : IntsAt W v l := LRow.rowAt h.1 (by have := h.2; omega)
theorem OwnI.step {W W1 : World} {v : Value} {l : List Int} (h : OwnI W v l) (hb : Below W.heap.size W W1) : OwnI W1 v l := ⟨LRow.step h.1 hb, h.2⟩
theorem OwnI.move {W W1 : World} {v : Value} {l : List Int} (h : OwnI W v l) (hb : ∀ k, k < W.heap.size → (∃ cur, W.heap[k]? = some (.cells cur 3 (0, 0))) → W1.heap[k]? = W.heap[k]?) : OwnI W1 v l := ⟨LRow.move h.1 (fun k hk => hb k (LRow.lt h.1 k hk).1 (LRow.lt h.1 k hk).2.2), h.2⟩
theorem OwnI.nil (W : World) : OwnI W (.slice none 0 0) [] := ⟨LRow.nil _ _ _ _, by simp⟩
def wlist (c : List Int) (L : List UseD) : List Int := L.map (fun u => waitP c L u.prio)
def WtRel (w : World) (c : List Int) (L : List UseD) (vo vi : Value) (wr : World) : Prop := ∃ k : Nat, k ≤ L.length ∧ vi = O Y k ∧ LRow wr w.heap.size 3 1 vo k (((wlist c L).take k).map (O Y)) ∧ Below w.heap.size w wr
theorem waits_any (v : Value) (L : List UseD) (nb : Nat) (w : World) (h : UsesAt w v L) (hu : ∀ u ∈ L, UseOk nb u) (hL : L.length ≤ 8) (hnb : nb ≤ 8) : Calls Tryz.prog 13 #[O Y (nb : Int), v] w fun e w' => (∃ vo, e = .returned vo ∧ OwnI w' vo (waitsP nb L)) ∧ Below w.heap.size w w' := by
 obtain ⟨A, cA, rfl, hcA, _⟩ := id h; have hR := ZZ (cright_any _ L nb w h hu hL hnb); replace h := ZZ h; replace hu := ZZ hu; go_enter Tryz.func13, Tryz.ntmps13; go_wp2_with fail; refine hR.out.mono ?_; rintro e w1 ⟨rfl, hb1⟩; have hCe := ZZ (ceilings_any _ L nb w1 (h.out.step hb1) hu.out hL hnb); replace hb1 := ZZ hb1; clear hR; go_wp2_with fail; refine hCe.out.mono ?_; rintro e w2 ⟨⟨vc, rfl, hAc⟩, hb2⟩; obtain ⟨ga, rfl, hlc, hgc⟩ := hAc; have hWs := ZZ (show waitsP nb L = wlist (ceilP nb L) L from rfl); generalize ceilP nb L = c at *; have a1 := (BR w2.heap.size w2).alloc (NR _) (.cells #[.slice (some ⟨ga, 0, none⟩) nb nb] 22); have m1 := heap_alloc_last w2 (.cells #[.slice (some ⟨ga, 0, none⟩) nb nb] 22); have hga := (a1.block _ (ltA hgc)).trans hgc; obtain ⟨gs, hgs⟩ : ∃ gs, w2.heap.size = gs := ⟨_, rfl⟩
 obtain ⟨W3, e3⟩ : ∃ W3, w2.alloc (.cells #[.slice (some ⟨ga, 0, none⟩) nb nb] 22) = W3 := ⟨_, rfl⟩
 rw [e3] at a1 m1 hga; rw [hgs] at m1; have hB3 := ZZ (hb1.out.trans ((hb2.trans (a1.mono hb2.size)).mono hb1.out.size)); have hU3 := ZZ (h.out.step hB3.out); replace m1 := ZZ m1; replace hga := ZZ hga; replace e3 := ZZ e3; replace hgs := ZZ hgs; replace hlc := ZZ hlc; clear hb2 hCe hgc a1; go_wp2_with fail; rw [e3.out, hgs.out]; clear e3 hgs; go_loopw [6, 19] (fun vo vi wr => WtRel W3 c L vo vi wr) (fun _ vi _ => L.length - (intOf vi).toNat); case atStart => exact ⟨0, by omega, rfl, LRow.nil _ _ _ _, BR _ _⟩
 case round =>
  obtain ⟨k, hk, rfl, hrow, hb⟩ := hrel; obtain ⟨Ar, co, rfl, -⟩ := LRow.slice hrow; by_cases hd : k < L.length
  · have b1 : ((k : Nat) : Int) < (L.length : Int) := by omega
    have b2 : decide (L.length ≤ k) = false := decide_eq_false (by omega); have b5 : (k : Int) ≤ 8 := by omega
    obtain ⟨u, hx⟩ : ∃ u, L[k]? = some u := ⟨_, GE hd⟩
    obtain ⟨ad, rfl, Ab, An, cb, cn, c0, c1, c2, h1, h2⟩ := (hU3.out.step hb).elem k u hx; have a4 := (BR wr.heap.size wr).alloc (NR _) (.cells #[O Y u.prio, .slice Ab u.blocks.length cb, .slice An u.lens.length cn] 47); have m4 := heap_alloc_last wr (.cells #[O Y u.prio, .slice Ab u.blocks.length cb, .slice An u.lens.length cn] 47); obtain ⟨W4, e4⟩ : ∃ W4, wr.alloc (.cells #[O Y u.prio, .slice Ab u.blocks.length cb, .slice An u.lens.length cn] 47) = W4 := ⟨_, rfl⟩
    have s4 : W4.heap.size = wr.heap.size + 1 := by rw [← e4, World.size_alloc]
    rw [e4] at a4 m4; have a5 := (BR W4.heap.size W4).alloc (NR _) (.cells #[O Y 0] 3); have m5 := heap_alloc_last W4 (.cells #[O Y 0] 3); rw [s4] at m5; obtain ⟨W5, e5⟩ : ∃ W5, W4.alloc (.cells #[O Y 0] 3) = W5 := ⟨_, rfl⟩
    rw [e5] at a5 m5; have e45 : (wr.alloc (.cells #[O Y u.prio, .slice Ab u.blocks.length cb, .slice An u.lens.length cn] 47)).alloc (.cells #[O Y 0] 3) = W5 := by rw [e4, e5]
    have a45 := a4.trans (a5.mono (by omega)); have m4' := (a5.block _ (ltA m4)).trans m4; have hb5 := hb.trans (a45.mono hb.size); have hsz5 : W5.heap.size = wr.heap.size + 2 := by rw [← e5, World.size_alloc, s4]
    have hga5 := (hb5.block _ (ltA hga.out)).trans hga.out; have hgs5 := (hb5.block _ (ltA m1.out)).trans m1.out; have hgal := (ltA hga.out); have hWI : WaI W3 wr.heap.size gs ga (wr.heap.size + 1) nb c u.prio 0 W5 := ⟨hb5, ⟨_, _, m4'⟩, hgs5, hga5, m5, hlc.out, by have := hb.size; omega, by have := hb.size; omega⟩
    have hEa := each_any (waitF c u.prio) (fun n W => WaI W3 wr.heap.size gs ga (wr.heap.size + 1) nb c u.prio n W ∧ Keeps [wr.heap.size + 1] W5 W) [wr.heap.size + 1] 37 #[.pointer (some ⟨wr.heap.size, 0, none⟩), .pointer (some ⟨gs, 0, none⟩), .pointer (some ⟨wr.heap.size + 1, 0, none⟩)] (enters_ (P := Tryz.prog) Tryz.func37 rfl rfl) W3 W5 (.slice (some ad) L.length cA) L hU3.out hL (fun u hm => ⟨(hu.out u hm).len, (hu.out u hm).bl⟩) (fun s W hI => hI.1.bel) (fun s W W' hI hb => ⟨hI.1.step hb, hI.2.trans (Keeps.of_below hb _)⟩) (by simp; omega)
     (fun s u' b n W vu hm hb hn hI hv => (wait1_any W3 W _ gs ga _ nb c u.prio s vu u' b n hI.1 hv (useOk_in (hu.out u' hm) hb) hnb).mono (fun e W' hh => ⟨hh.1, ⟨hh.2.1, hI.2.trans hh.2.2⟩, hh.2.2⟩)) 0 ⟨hWI, Keeps.refl _ _⟩
    have hwp : foldL (waitF c u.prio) L 0 = waitP c L u.prio := rfl; rw [hwp] at hEa; obtain ⟨wv, hwv⟩ : ∃ wv, waitP c L u.prio = wv := ⟨_, rfl⟩
    rw [hwv] at hEa; have htk : ((wlist c L).take (k + 1)).map (O Y) = ((wlist c L).take k).map (O Y) ++ [O Y wv] := by
     unfold wlist; rw [List.take_add_one, List.getElem?_map, hx, ← hwv]; simp
    have hrow5 := LRow.step hrow a45; have hown := fun (q : Nat) (hv : (Value.slice Ar k co).ownBlock = some q) => (LRow.lt hrow q hv).1; replace htk := ZZ htk; replace hEa := ZZ hEa; replace hd := ZZ hd; replace e45 := ZZ e45; replace hrow5 := ZZ hrow5; replace hown := ZZ hown; clear hx h1 h2 a4 m4 e4 s4 a5 m5 e5 a45 m4' hb5 hga5 hgs5 hWI hwp hwv hk hrow hb hsz5; go_wp2_with fail; rw [e45.out]; refine hEa.out.mono ?_; rintro e w6 ⟨rfl, ⟨hW6, hk6⟩, -⟩; have n0 := bk hW6.n 0 (O Y wv); have hrow6 := ZZ (hrow5.out.move (fun q hv => hk6.block q (LRow.lt hrow5.out q hv).1 (fun hm => by have := hown.out q hv; rw [List.mem_singleton.1 hm] at this; omega))); have hb6 := ZZ hW6.bel; clear hEa e45 hW6 hk6 hrow5 hown c0 c1 c2; go_wp2_with (first | (at_builtin; refine wpList_append_one W3 w6 W3.heap.size rfl (.tmp 26) (.tmp 28) 22 3 _ 1 8 rfl Tryz.underlying22 info3T rfl (by decide) (by decide) (.slice Ar k co) k _ _ rfl rfl rfl (by simp [Value.oneCell']) hrow6.out hb6.out (NR _) (by omega) ?_; rintro A1 c1' w7 hrow7 hb7 - hg7) | fail)
    exact ⟨⟨k + 1, hd.out, by go_num, by rw [htk.out]; exact hrow7, hb7⟩, by have := hd.out; simp [intOf]; omega⟩
  · have b1 : ¬ (((k : Nat) : Int) < (L.length : Int)) := by omega
    have hke : k = L.length := by omega
    subst hke; rw [List.take_of_length_le (by simp [wlist])] at hrow; have hro := ZZ (show OwnI wr (.slice Ar L.length co) (wlist c L) from ⟨by rw [show (wlist c L).length = L.length by simp [wlist]]; exact LRow.base0 hrow, by rw [show (wlist c L).length = L.length by simp [wlist]]; omega⟩); replace hb := ZZ hb; clear hd hk hrow; go_wp2_with fail; go_ret; exact ⟨⟨_, rfl, by rw [hWs.out]; exact hro.out⟩, hB3.out.trans (hb.out.mono hB3.out.size)⟩
def ceilV (a b : Int) : Int := if a = 0 then 0 else (a - 1) / b + 1
def NtRel (w : World) (n : Nat) (vi : Value) (wr : World) : Prop := ∃ k : Nat, k ≤ n ∧ vi = O Y k ∧ wr = w
theorem nright1_any (n : Int) (w : World) (h : 0 ≤ n ∧ n ≤ 1152921504606846976) : Calls Tryz.prog 114 #[O Y n] w fun e w' => e = .returned (.bool true) ∧ w' = w := by
 have h1 : 0 ≤ n := h.1; have h2 : n < 4611686018427387904 := by omega
 clear h; go_enter Tryz.func114, Tryz.ntmps114; go_wp2_with fail; go_ret; exact ⟨rfl, rfl⟩
theorem nall_any (v : Value) (l : List Int) (w : World) (h : IntsAt w v l) (hl : ∀ n ∈ l, 0 ≤ n ∧ n ≤ 1152921504606846976) (hlen : l.length ≤ 100) : Calls Tryz.prog 144 #[v] w fun e w' => e = .returned (.bool true) ∧ w' = w := by
 obtain ⟨A, c, rfl, hc, _⟩ := id h; replace h := ZZ h; replace hl := ZZ hl; go_enter Tryz.func144, Tryz.ntmps144; go_wp2_with fail; go_loopw [7] (fun vi wr => NtRel w l.length vi wr) (fun vi _ => l.length - (intOf vi).toNat); case atStart => exact ⟨0, by omega, rfl, rfl⟩
 case round =>
  obtain ⟨k, hk, rfl, rfl⟩ := hrel; by_cases hd : k < l.length
  · have b1 : ((k : Nat) : Int) < (l.length : Int) := by omega
    have b2 : decide (l.length ≤ k) = false := decide_eq_false (by omega); have b5 : (k : Int) ≤ 100 := by omega
    obtain ⟨x, hx⟩ : ∃ x, l[k]? = some x := ⟨_, GE hd⟩
    obtain ⟨ad1, rfl, q1⟩ := h.out.at k x hx; have hr := ZZ (nright1_any x wr (hl.out x (LM hx))); replace hd := ZZ hd; clear hx hk; go_wp2_with fail; refine hr.out.mono ?_; rintro e w5 ⟨rfl, hw5⟩; rw [hw5]; clear hw5 w5 hr; go_wp2_with fail; exact ⟨⟨k + 1, hd.out, by go_num, rfl⟩, by have := hd.out; simp [intOf]; omega⟩
  · have b1 : ¬ (((k : Nat) : Int) < (l.length : Int)) := by omega
    clear hd hk; go_wp2_with fail; go_ret; exact ⟨rfl, rfl⟩
def sumF : List Int → Int
 | [] => 0
 | n :: l => n + sumF l
theorem sumF_bd : ∀ (l : List Int), (∀ n ∈ l, 0 ≤ n ∧ n ≤ 1000000000000000) → 0 ≤ sumF l ∧ sumF l ≤ 1000000000000000 * l.length := by
 intro l; induction l with
 | nil => intro _; simp [sumF]
 | cons x l ih =>
  intro h; have h1 := h x (by simp); have h2 := ih (fun n hn => h n (by simp [hn])); rw [sumF, List.length_cons]; omega
def NsRel (w : World) (l : List Int) (vs vi : Value) (wr : World) : Prop := ∃ (k : Nat) (s : Int), k ≤ l.length ∧ vi = O Y k ∧ vs = O Y s ∧ 0 ≤ s ∧ s + sumF (l.drop k) = sumF l ∧ wr = w
theorem nadd_any (v : Value) (l : List Int) (w : World) (h : IntsAt w v l) (hl : ∀ n ∈ l, 0 ≤ n ∧ n ≤ 1000000000000000) (hlen : l.length ≤ 100) : Calls Tryz.prog 115 #[v] w fun e w' => e = .returned (.tuple #[O Y (sumF l), O Y 0]) ∧ w' = w := by
 obtain ⟨A, c, rfl, hc, _⟩ := id h; have hN := ZZ (nall_any _ l w h (fun n hn => by have := hl n hn; omega) hlen); have hsb := ZZ (sumF_bd l hl); replace h := ZZ h; replace hl := ZZ hl; go_enter Tryz.func115, Tryz.ntmps115; go_wp2_with fail; refine hN.out.mono ?_; rintro e w1 ⟨rfl, hw1⟩; rw [hw1]; clear hw1 w1 hN; go_wp2_with fail; go_loopw [4, 12] (fun vs vi wr => NsRel w l vs vi wr) (fun _ vi _ => l.length - (intOf vi).toNat); case atStart => exact ⟨0, 0, by omega, rfl, rfl, by omega, by simp, rfl⟩
 case round =>
  obtain ⟨k, s, hk, rfl, rfl, hs0, hs, rfl⟩ := hrel; by_cases hd : k < l.length
  · have b1 : ((k : Nat) : Int) < (l.length : Int) := by omega
    have b2 : decide (l.length ≤ k) = false := decide_eq_false (by omega); have b5 : (k : Int) ≤ 100 := by omega
    obtain ⟨x, hx⟩ : ∃ x, l[k]? = some x := ⟨_, GE hd⟩
    obtain ⟨ad1, rfl, q1⟩ := h.out.at k x hx; rw [List.drop_eq_getElem_cons hd, sumF] at hs; rw [GE hd] at hx; injection hx with hx
    rw [hx] at hs; have hxb := hl.out x (by rw [← hx]; exact List.getElem_mem hd); have hrest := sumF_bd (l.drop (k + 1)) (fun n hn => hl.out n (List.mem_of_mem_drop hn)); have hsb' := hsb.out; obtain ⟨s2, e2⟩ : ∃ s2, s + x = s2 := ⟨_, rfl⟩
    have hs2 : 0 ≤ s2 ∧ s2 ≤ 100000000000000000 := by omega
    have hs3 : s2 + sumF (l.drop (k + 1)) = sumF l := by omega
    have hr := ZZ (nright1_any s2 wr (by omega)); have e3 : wrap64 (s + x) = s2 := by rw [e2]; exact wrapIn (by omega)
    replace e2 := ZZ e2; replace hd := ZZ hd; replace hs2 := ZZ hs2; replace hs3 := ZZ hs3; clear hx hk hxb hrest hsb' hs; go_wp2_with fail; refine hr.out.mono ?_; rintro e w5 ⟨rfl, hw5⟩; rw [hw5]; clear hw5 w5 hr; go_wp2_with fail; exact ⟨⟨k + 1, s2, hd.out, by go_num, by first | rfl | rw [e3], hs2.out.1, hs3.out, rfl⟩, by have := hd.out; simp [intOf]; omega⟩
  · have b1 : ¬ (((k : Nat) : Int) < (l.length : Int)) := by omega
    rw [List.drop_of_length_le (by omega)] at hs; have hs3 := ZZ (show s = sumF l by simp only [sumF] at hs; omega); clear hd hk hs; go_wp2_with fail; refine bodyPost_ret (results_tmp2 rfl _ _ _) rfl ?_; exact ⟨by rw [← hs3.out]; rfl, rfl⟩
theorem nceil_any (a b : Int) (w : World) (ha : 0 ≤ a ∧ a ≤ 1000000000000000) (hb : 1 ≤ b ∧ b ≤ 1000000000000000) : Calls Tryz.prog 145 #[O Y a, O Y b] w fun e w' => e = .returned (.tuple #[O Y (ceilV a b), O Y 0]) ∧ w' = w := by
 have hA := ZZ (nright1_any a w (by omega)); have hB := ZZ (nright1_any b w (by omega)); have b0 : (b == 0) = false := beq_eq_false_iff_ne.mpr (by omega); by_cases h0 : a = 0
 · have hP := ZZ (show ceilV a b = 0 from if_pos h0); have a0 : (a == 0) = true := beq_iff_eq.mpr h0; replace h0 := ZZ h0; replace ha := ZZ ha; replace hb := ZZ hb; go_enter Tryz.func145, Tryz.ntmps145; go_wp2_with fail; refine hA.out.mono ?_; rintro e w5 ⟨rfl, hw5⟩; rw [hw5]; clear hw5 w5; go_wp2_with fail; refine hB.out.mono ?_; rintro e w5 ⟨rfl, hw5⟩; rw [hw5]; clear hw5 w5; go_wp2_with fail; refine bodyPost_ret (results_tmp2 rfl _ _ _) rfl ?_; exact ⟨by rw [hP.out]; rfl, rfl⟩
 · have hP := (show ceilV a b = (a - 1) / b + 1 from if_neg h0)
   have a0 : (a == 0) = false := beq_eq_false_iff_ne.mpr h0; obtain ⟨m, hm⟩ : ∃ m, a - 1 = m := ⟨_, rfl⟩
   have hm0 : 0 ≤ m := by omega
   obtain ⟨q, hq⟩ : ∃ q, m / b = q := ⟨_, rfl⟩
   have hqb : 0 ≤ q ∧ q ≤ 1000000000000000 := by
    have h1 := Int.ediv_nonneg hm0 (show 0 ≤ b by omega); have h2 := Int.ediv_le_self b hm0; omega
   rw [hm, hq] at hP; have e1 : wrap64 (a - 1) = m := by rw [hm]; exact wrapIn (by omega)
   have e2 : Int.tdiv m b = q := by rw [Int.tdiv_eq_ediv_of_nonneg hm0]; exact hq
   have e3 : wrap64 q = q := wrapIn (by clear e1; omega); have e4 : wrap64 (q + 1) = q + 1 := wrapIn (by clear e1 e3; omega); have b1 : ¬ (b = 0) := by clear e1 e3 e4; omega
   replace hP := ZZ hP; replace h0 := ZZ h0; replace ha := ZZ ha; replace hb := ZZ hb; replace hqb := ZZ hqb; replace hq := ZZ hq; replace hm := ZZ hm; go_enter Tryz.func145, Tryz.ntmps145; go_wp2_with fail; refine hA.out.mono ?_; rintro e w5 ⟨rfl, hw5⟩; rw [hw5]; clear hw5 w5; go_wp2_with fail; refine hB.out.mono ?_; rintro e w5 ⟨rfl, hw5⟩; rw [hw5]; clear hw5 w5; go_wp2_with fail; refine bodyPost_ret (results_tmp2 rfl _ _ _) rfl ?_; exact ⟨by rw [hP.out.trans e4.symm]; rfl, rfl⟩
theorem nmul_any (a b : Int) (w : World) (ha : 0 ≤ a ∧ a ≤ 100000000) (hb : 0 ≤ b ∧ b ≤ 100000000) : Calls Tryz.prog 146 #[O Y a, O Y b] w fun e w' => e = .returned (.tuple #[O Y (a * b), O Y 0]) ∧ w' = w := by
 have hA := ZZ (nright1_any a w (by omega)); have hB := ZZ (nright1_any b w (by omega)); by_cases h0 : a = 0
 · have a0 : (a == 0) = true := beq_iff_eq.mpr h0; have hP := ZZ (show a * b = 0 by rw [h0]; simp); replace h0 := ZZ h0; replace ha := ZZ ha; replace hb := ZZ hb; go_enter Tryz.func146, Tryz.ntmps146; go_wp2_with fail; refine hA.out.mono ?_; rintro e w5 ⟨rfl, hw5⟩; rw [hw5]; clear hw5 w5; go_wp2_with fail; refine hB.out.mono ?_; rintro e w5 ⟨rfl, hw5⟩; rw [hw5]; clear hw5 w5; go_wp2_with fail; refine bodyPost_ret (results_tmp2 rfl _ _ _) rfl ?_; exact ⟨by rw [hP.out]; rfl, rfl⟩
 · have a0 : (a == 0) = false := beq_eq_false_iff_ne.mpr h0; by_cases h1 : b = 0
   · have b0 : (b == 0) = true := beq_iff_eq.mpr h1; have hP := ZZ (show a * b = 0 by rw [h1]; simp); replace h0 := ZZ h0; replace h1 := ZZ h1; replace ha := ZZ ha; replace hb := ZZ hb; go_enter Tryz.func146, Tryz.ntmps146; go_wp2_with fail; refine hA.out.mono ?_; rintro e w5 ⟨rfl, hw5⟩; rw [hw5]; clear hw5 w5; go_wp2_with fail; refine hB.out.mono ?_; rintro e w5 ⟨rfl, hw5⟩; rw [hw5]; clear hw5 w5; go_wp2_with fail; refine bodyPost_ret (results_tmp2 rfl _ _ _) rfl ?_; exact ⟨by rw [hP.out]; rfl, rfl⟩
   · have b0 : (b == 0) = false := beq_eq_false_iff_ne.mpr h1; have b1 : ¬ (b = 0) := h1; have hpb : 0 ≤ a * b ∧ a * b ≤ 10000000000000000 := by
      have g1 := Int.mul_nonneg ha.1 hb.1; have g2 := Int.mul_le_mul ha.2 hb.2 hb.1 (by omega); omega
     obtain ⟨q, hq⟩ : ∃ q, (4611686018427387903 : Int) / b = q := ⟨_, rfl⟩
     have haq : a ≤ q := by
      rw [← hq]; exact (Int.le_ediv_iff_mul_le (by omega)).2 (by omega)
     have hq0 : q ≤ 4611686018427387903 := by rw [← hq]; exact Int.ediv_le_self b (by omega)
     have e2 : Int.tdiv 4611686018427387903 b = q := by rw [Int.tdiv_eq_ediv_of_nonneg (by omega)]; exact hq
     have e3 : wrap64 q = q := wrapIn (by omega); have e4 : wrap64 (a * b) = a * b := wrapIn (by clear e3; omega); have g9 : ¬ (q < a) := by clear e3 e4; omega
     replace h0 := ZZ h0; replace ha := ZZ ha; replace hb := ZZ hb; replace hq := ZZ hq; replace hpb := ZZ hpb; replace hq0 := ZZ hq0; replace h1 := ZZ h1; replace e4 := ZZ e4; go_enter Tryz.func146, Tryz.ntmps146; go_wp2_with fail; refine hA.out.mono ?_; rintro e w5 ⟨rfl, hw5⟩; rw [hw5]; clear hw5 w5; go_wp2_with fail; refine hB.out.mono ?_; rintro e w5 ⟨rfl, hw5⟩; rw [hw5]; clear hw5 w5; go_wp2_with fail; refine bodyPost_ret (results_tmp2 rfl _ _ _) rfl ?_; exact ⟨by rw [← e4.out]; first | rfl | (rw [e4.out]; rfl) | (simp [e4.out]), rfl⟩
structure RowD where
 c : Int
 b : Int
 t : Int
 d : Int
 j : Int
 p : Int
def RowD.val (r : RowD) : Value := .agg #[O Y r.c, O Y r.b, O Y r.t, O Y r.d, O Y r.j, O Y r.p]
def rowE (r : RowD) : List Value := [O Y r.c, O Y r.b, O Y r.t, O Y r.d, O Y r.j, O Y r.p]
structure RowOk (r : RowD) : Prop where
 c : 1 ≤ r.c ∧ r.c ≤ 10000000
 b : 0 ≤ r.b ∧ r.b ≤ 10000000
 t : 1 ≤ r.t ∧ r.t ≤ 1048576
 d : 1 ≤ r.d ∧ r.d ≤ 1048576
 j : 0 ≤ r.j ∧ r.j ≤ 1048576
 p : 1 ≤ r.p ∧ r.p ≤ 100
theorem idx231 (x0 x1 x2 x3 x4 x5 : Int) (k : Nat) (w : World) (hk : k < 6) : (Instr.index 231 (.agg #[O Y x0, O Y x1, O Y x2, O Y x3, O Y x4, O Y x5]) (O Y (k : Int))).run Tryz.prog w = .ok (O Y ([x0, x1, x2, x3, x4, x5].getD k 0)) w := by
 obtain ⟨i0, hi, hz⟩ := Option.map_eq_some_iff.1 (show (Tryz.prog.info? 3).map (·.size) = some 1 by kernel_rfl); rcases (by omega : k = 0 ∨ k = 1 ∨ k = 2 ∨ k = 3 ∨ k = 4 ∨ k = 5) with rfl | rfl | rfl | rfl | rfl | rfl <;> simp [Instr.index, run_underlying Tryz.underlying231, asIntOf, asAgg, part, sizeOf, typeInfo, hi, hz, isAgg, run_underlying Tryz.underlying3]
theorem rright_any (r : RowD) (w : World) (h : RowOk r) : Calls Tryz.prog 73 #[.agg #[O Y r.c, O Y r.b, O Y r.t, O Y r.d, O Y r.j, O Y r.p]] w fun e w' => e = .returned (.bool true) ∧ Below w.heap.size w w' := by
 have hbl := heap_alloc_last w (.cells #[O Y r.c, O Y r.b, O Y r.t, O Y r.d, O Y r.j, O Y r.p] 51); have al := (BR w.heap.size w).alloc (NR _) (.cells #[O Y r.c, O Y r.b, O Y r.t, O Y r.d, O Y r.j, O Y r.p] 51); obtain ⟨W1, hW1⟩ : ∃ W1, w.alloc (.cells #[O Y r.c, O Y r.b, O Y r.t, O Y r.d, O Y r.j, O Y r.p] 51) = W1 := ⟨_, rfl⟩
 rw [hW1] at hbl al; have c0 := bk hbl 0 (O Y r.c); have c1 := bk hbl 1 (O Y r.b); have c2 := bk hbl 2 (O Y r.t); have c3 := bk hbl 3 (O Y r.d); have c4 := bk hbl 4 (O Y r.j); have c5 := bk hbl 5 (O Y r.p); have hx : ∀ k, k < 6 → 0 ≤ [wrap64 (r.c - 1), wrap64 (r.t - 1), r.c, r.t, r.b, r.j].getD k 0 ∧ [wrap64 (r.c - 1), wrap64 (r.t - 1), r.c, r.t, r.b, r.j].getD k 0 ≤ 1152921504606846976 := by
  have h1 := h.c; have h2 := h.t; have h3 := h.b; have h4 := h.j; have e1 : wrap64 (r.c - 1) = r.c - 1 := wrapIn (by omega); have e2 : wrap64 (r.t - 1) = r.t - 1 := wrapIn (by clear e1; omega); rw [e1, e2]; clear e1 e2; intro k hk; rcases (by omega : k = 0 ∨ k = 1 ∨ k = 2 ∨ k = 3 ∨ k = 4 ∨ k = 5) with rfl | rfl | rfl | rfl | rfl | rfl <;> (simp; omega)
 have d1 : (1 : Int) ≤ r.d := h.d.1; have d2 : r.d ≤ 1048576 := h.d.2; have p1 : (1 : Int) ≤ r.p := h.p.1; have p2 : r.p ≤ 100 := h.p.2; replace hx := ZZ hx; replace h := ZZ h; replace al := ZZ al; replace hbl := ZZ hbl; go_enter Tryz.func73, Tryz.ntmps73; go_wp2_with fail; go_loopw [20] (fun vi wr => NtRel W1 6 vi wr) (fun vi _ => 6 - (intOf vi).toNat); case atStart => exact ⟨0, by omega, rfl, rfl⟩
 case round =>
  obtain ⟨k, hk, rfl, rfl⟩ := hrel; by_cases hd : k < 6
  · have b1 : ((k : Nat) : Int) < 6 := by omega
    have b5 : (k : Int) ≤ 6 := by omega
    have hix := idx231 (wrap64 (r.c - 1)) (wrap64 (r.t - 1)) r.c r.t r.b r.j k wr hd; have hxk := hx.out k hd; generalize [wrap64 (r.c - 1), wrap64 (r.t - 1), r.c, r.t, r.b, r.j].getD k 0 = x at *; have hr := ZZ (nright1_any x wr hxk); replace hxk := ZZ hxk; replace hd := ZZ hd; clear hk; go_wp2_with fail; refine hr.out.mono ?_; rintro e w5 ⟨rfl, hw5⟩; rw [hw5]; clear hw5 w5 hr hix; go_wp2_with fail; exact ⟨⟨k + 1, hd.out, by go_num, rfl⟩, by have := hd.out; simp [intOf]; omega⟩
  · have b1 : ¬ (((k : Nat) : Int) < 6) := by omega
    clear hd hk; go_wp2_with fail; go_ret; exact ⟨rfl, al.out⟩
def RowCell (W : World) (p : Addr) (r : RowD) : Prop := W.cell? p = some (O Y r.c) ∧ W.cell? ⟨p.block, p.off + 1, none⟩ = some (O Y r.b) ∧ W.cell? ⟨p.block, p.off + 2, none⟩ = some (O Y r.t) ∧ W.cell? ⟨p.block, p.off + 3, none⟩ = some (O Y r.d) ∧ W.cell? ⟨p.block, p.off + 4, none⟩ = some (O Y r.j) ∧ W.cell? ⟨p.block, p.off + 5, none⟩ = some (O Y r.p)
def RrAt (W : World) (v : Value) (L : List RowD) : Prop := ∃ A c, v = .slice A L.length c ∧ L.length ≤ c ∧ ∀ (j : Nat) r, L[j]? = some r → ∃ ad, A = some ad ∧ RowCell W (ad.add (j * 6)) r
theorem RowCell.step {W W1 : World} {p : Addr} {r : RowD} (h : RowCell W p r) (hb : Below W.heap.size W W1) : RowCell W1 p r := by
 obtain ⟨h0, h1, h2, h3, h4, h5⟩ := h; exact ⟨cell_keep hb (NR _) h0, cell_keep hb (NR _) h1, cell_keep hb (NR _) h2, cell_keep hb (NR _) h3, cell_keep hb (NR _) h4, cell_keep hb (NR _) h5⟩
theorem RrAt.step {W W1 : World} {v : Value} {L : List RowD} (h : RrAt W v L) (hb : Below W.heap.size W W1) : RrAt W1 v L := by
 obtain ⟨A, c, e, h1, h2⟩ := h; exact ⟨A, c, e, h1, fun j u hj => by
  obtain ⟨ad, h3, h4⟩ := h2 j u hj; exact ⟨ad, h3, h4.step hb⟩⟩
theorem RrAt.elem {W : World} {A : Option Addr} {n c : Nat} {L : List RowD} (h : RrAt W (.slice A n c) L) (j : Nat) (r : RowD) (hj : L[j]? = some r) : ∃ ad, A = some ad ∧ RowCell W (ad.add (j * 6)) r := by
 obtain ⟨A', c', e, _, h2⟩ := h; injection e with e1 e2 e3
 subst e1; exact h2 j r hj
theorem tright_any (v : Value) (L : List RowD) (w : World) (h : RrAt w v L) (hu : ∀ r ∈ L, RowOk r) (hL : L.length ≤ 8) : Calls Tryz.prog 39 #[v] w fun e w' => e = .returned (.bool true) ∧ Below w.heap.size w w' := by
 obtain ⟨A, c, rfl, hc, _⟩ := id h; have p3 : (L.length : Int) ≤ 8 := by omega
 replace h := ZZ h; replace hu := ZZ hu; go_enter Tryz.func39, Tryz.ntmps39; go_wp2_with fail; go_loopw [7] (fun vi wr => CrRel w L.length vi wr) (fun vi _ => L.length - (intOf vi).toNat); case atStart => exact ⟨0, by omega, rfl, BR _ _⟩
 case round =>
  obtain ⟨k, hk, rfl, hb⟩ := hrel; by_cases hd : k < L.length
  · have b1 : ((k : Nat) : Int) < (L.length : Int) := by omega
    have b2 : decide (L.length ≤ k) = false := decide_eq_false (by omega); have b5 : (k : Int) ≤ 8 := by omega
    obtain ⟨r, hx⟩ : ∃ r, L[k]? = some r := ⟨_, GE hd⟩
    obtain ⟨ad, rfl, c0, c1, c2, c3, c4, c5⟩ := (h.out.step hb).elem k r hx; have al := (BR wr.heap.size wr).alloc (NR _) (.cells #[O Y r.c, O Y r.b, O Y r.t, O Y r.d, O Y r.j, O Y r.p] 51); have hbx := heap_alloc_last wr (.cells #[O Y r.c, O Y r.b, O Y r.t, O Y r.d, O Y r.j, O Y r.p] 51); have y0 := bk hbx 0 (O Y r.c); have y1 := bk hbx 1 (O Y r.b); have y2 := bk hbx 2 (O Y r.t); have y3 := bk hbx 3 (O Y r.d); have y4 := bk hbx 4 (O Y r.j); have y5 := bk hbx 5 (O Y r.p); have hR := ZZ (rright_any r (wr.alloc (.cells #[O Y r.c, O Y r.b, O Y r.t, O Y r.d, O Y r.j, O Y r.p] 51)) (hu.out r (LM hx))); have hB := ZZ (hb.trans (al.mono hb.size)); obtain ⟨W1, hW1⟩ : ∃ W1, wr.alloc (.cells #[O Y r.c, O Y r.b, O Y r.t, O Y r.d, O Y r.j, O Y r.p] 51) = W1 := ⟨_, rfl⟩
    rw [hW1] at y0 y1 y2 y3 y4 y5 hR hB; replace hd := ZZ hd; clear hx al hbx hk hb; go_wp2_with fail; refine hR.out.mono ?_; rintro e w5 ⟨rfl, hb5⟩; have hB5 := ZZ (hB.out.trans (hb5.mono hB.out.size)); clear hR hb5 y0 y1 y2 y3 y4 y5 c0 c1 c2 c3 c4 c5; go_wp2_with fail; exact ⟨⟨k + 1, hd.out, by go_num, hB5.out⟩, by have := hd.out; simp [intOf]; omega⟩
  · have b1 : ¬ (((k : Nat) : Int) < (L.length : Int)) := by omega
    replace hb := ZZ hb; clear hd hk; go_wp2_with fail; go_ret; exact ⟨rfl, hb.out⟩
theorem there_any (v : Value) (L : List RowD) (i : Nat) (w : World) (h : RrAt w v L) (hu : ∀ r ∈ L, RowOk r) (hL : L.length ≤ 8) (hi : i < L.length) : Calls Tryz.prog 74 #[v, O Y (i : Int)] w fun e w' => e = .returned (.bool true) ∧ Below w.heap.size w w' := by
 obtain ⟨A, c, rfl, hc, _⟩ := id h; have hR := ZZ (tright_any _ L w h hu hL); have b1 : ((i : Nat) : Int) < (L.length : Int) := by omega
 have b2 : (0 : Int) ≤ (i : Int) := by omega
 clear h; go_enter Tryz.func74, Tryz.ntmps74; go_wp2_with fail; refine hR.out.mono ?_; rintro e w1 ⟨rfl, hb⟩; replace hb := ZZ hb; go_wp2_with fail; go_ret; exact ⟨rfl, hb.out⟩
def addsV (r : RowD) (w p : Int) : Int := (if r.p = p then ceilV (w + r.j) r.t + 1 else ceilV (w + r.j) r.t) * r.c
theorem ceilV_bd {a b : Int} (ha : 0 ≤ a) (hb : 1 ≤ b) : 0 ≤ ceilV a b ∧ ceilV a b ≤ a + 1 := by
 unfold ceilV; split
 · omega
 · have h1 := Int.ediv_nonneg (show 0 ≤ a - 1 by omega) (show 0 ≤ b by omega); have h2 := Int.ediv_le_self b (show 0 ≤ a - 1 by omega); omega
theorem two_ints (w : World) (a b : Int) : IntsAt (w.alloc (.cells #[O Y a, O Y b] 3)) (.slice (some ⟨w.heap.size, 0, none⟩) 2 2) [a, b] := by
 have hbl := heap_alloc_last w (.cells #[O Y a, O Y b] 3); refine ⟨_, _, rfl, NR _, by simp, fun j u hj => ⟨_, rfl, ?_⟩⟩; rw [add_plain]; exact (blk_cell hbl j).trans (by simpa using hj)
theorem adds_any (r : RowD) (x p : Int) (w : World) (h : RowOk r) (hx : 0 ≤ x ∧ x ≤ 4000000) : Calls Tryz.prog 116 #[.agg #[O Y r.c, O Y r.b, O Y r.t, O Y r.d, O Y r.j, O Y r.p], O Y x, O Y p] w fun e w' => e = .returned (.tuple #[O Y (addsV r x p), O Y 0]) ∧ Below w.heap.size w w' := by
 have hbl := heap_alloc_last w (.cells #[O Y r.c, O Y r.b, O Y r.t, O Y r.d, O Y r.j, O Y r.p] 51); have al := (BR w.heap.size w).alloc (NR _) (.cells #[O Y r.c, O Y r.b, O Y r.t, O Y r.d, O Y r.j, O Y r.p] 51); obtain ⟨W1, hW1⟩ : ∃ W1, w.alloc (.cells #[O Y r.c, O Y r.b, O Y r.t, O Y r.d, O Y r.j, O Y r.p] 51) = W1 := ⟨_, rfl⟩
 rw [hW1] at hbl al; have al2 := (BR W1.heap.size W1).alloc (NR _) (.cells #[O Y x, O Y r.j] 3); have hbl2 := (al2.block _ (ltA hbl)).trans hbl; have hTw := two_ints W1 x r.j; obtain ⟨W2, hW2⟩ : ∃ W2, W1.alloc (.cells #[O Y x, O Y r.j] 3) = W2 := ⟨_, rfl⟩
 rw [hW2] at al2 hbl2 hTw; have hB2 := ZZ (al.trans (al2.mono al.size)); have hj := h.j; have ht := h.t; have hc := h.c; have hAd := nadd_any _ [x, r.j] W2 hTw (by simp; omega) (by simp); rw [show sumF [x, r.j] = x + r.j by simp [sumF]] at hAd; obtain ⟨n, hn⟩ : ∃ n, x + r.j = n := ⟨_, rfl⟩
 rw [hn] at hAd; have hCe := nceil_any n r.t W2 (by omega) (by omega); have hcb := ceilV_bd (a := n) (b := r.t) (by omega) (by omega); have hP := (show addsV r x p = (if r.p = p then ceilV n r.t + 1 else ceilV n r.t) * r.c by unfold addsV; rw [hn])
 have c4 := bk hbl 4 (O Y r.j); have y0 := bk hbl2 0 (O Y r.c); have y1 := bk hbl2 1 (O Y r.b); have y2 := bk hbl2 2 (O Y r.t); have y3 := bk hbl2 3 (O Y r.d); have y4 := bk hbl2 4 (O Y r.j); have y5 := bk hbl2 5 (O Y r.p); obtain ⟨k, hk⟩ : ∃ k, ceilV n r.t = k := ⟨_, rfl⟩
 rw [hk] at hCe hcb hP; have hkb : 0 ≤ k ∧ k ≤ 10000000 := by omega
 have hMu := fun k2 (h2 : 0 ≤ k2 ∧ k2 ≤ 100000000) => nmul_any k2 r.c W2 h2 (by omega); have e1 : wrap64 (k + 1) = k + 1 := wrapIn (by omega); replace e1 := ZZ e1; replace hAd := ZZ hAd; replace hCe := ZZ hCe; replace hMu := ZZ hMu; replace hn := ZZ hn; replace hkb := ZZ hkb; replace hk := ZZ hk; clear hj ht hc hx h hcb hTw hbl hbl2 al al2; by_cases hp : r.p = p
 · have g1 : (r.p == p) = true := beq_iff_eq.mpr hp; rw [if_pos hp] at hP; replace hP := ZZ hP; replace hp := ZZ hp; go_enter Tryz.func116, Tryz.ntmps116; go_wp2_with fail; refine hAd.out.mono ?_; rintro e w5 ⟨rfl, hw5⟩; rw [hw5]; clear hw5 w5; go_wp2_with fail; refine hCe.out.mono ?_; rintro e w5 ⟨rfl, hw5⟩; rw [hw5]; clear hw5 w5; replace e1 := e1.out; go_wp2_with fail; have hM1 := hMu.out (k + 1) (by have := hkb.out; clear e1; omega); have hM2 := hM1; rw [← e1] at hM2; replace hM1 := ZZ hM1; first | with_reducible refine hM1.out.mono ?_ | with_reducible refine hM2.mono ?_
   rintro e w5 ⟨rfl, hw5⟩; rw [hw5]; clear hw5 w5 hM2 hM1; try rw [e1]
   clear e1; generalize (k + 1) * r.c = res at *; go_wp2_with fail; refine bodyPost_ret (results_tmp2 rfl _ _ _) rfl ?_; exact ⟨by rw [hP.out]; rfl, hB2.out⟩
 · have g1 : (r.p == p) = false := beq_eq_false_iff_ne.mpr hp; rw [if_neg hp] at hP; replace hP := ZZ hP; replace hp := ZZ hp; go_enter Tryz.func116, Tryz.ntmps116; go_wp2_with fail; refine hAd.out.mono ?_; rintro e w5 ⟨rfl, hw5⟩; rw [hw5]; clear hw5 w5; go_wp2_with fail; refine hCe.out.mono ?_; rintro e w5 ⟨rfl, hw5⟩; rw [hw5]; clear hw5 w5; go_wp2_with fail; refine (hMu.out k (by have := hkb.out; omega)).mono ?_; rintro e w5 ⟨rfl, hw5⟩; rw [hw5]; clear hw5 w5; generalize k * r.c = res at *; go_wp2_with fail; refine bodyPost_ret (results_tmp2 rfl _ _ _) rfl ?_; exact ⟨by rw [hP.out]; rfl, hB2.out⟩
def nxtF (own : RowD) (i : Nat) (w : Int) : List RowD → Nat → Int → Int
 | [], _, s => s
 | r :: rs, j, s => nxtF own i w rs (j + 1) (if j = i ∨ r.p < own.p then s else s + addsV r w own.p)
def row0 : RowD := ⟨0, 0, 0, 0, 0, 0⟩
def nextV (L : List RowD) (i : Nat) (w : Int) : Int := nxtF (L.getD i row0) i w L 0 ((L.getD i row0).c + (L.getD i row0).b)
theorem nxtF_cons {own : RowD} {i : Nat} {w : Int} {L : List RowD} {k : Nat} {r : RowD} (hr : L[k]? = some r) (s : Int) : nxtF own i w (L.drop k) k s = nxtF own i w (L.drop (k + 1)) (k + 1) (if k = i ∨ r.p < own.p then s else s + addsV r w own.p) := by
 have h := (GI.1 hr).1; rw [List.drop_eq_getElem_cons h, nxtF]; rw [GE h] at hr; injection hr with hr
 rw [hr]
theorem addsV_bd {r : RowD} (h : RowOk r) {x : Int} (p : Int) (hx : 0 ≤ x ∧ x ≤ 4000000) : 0 ≤ addsV r x p ∧ addsV r x p ≤ 60000000000000 := by
 have hj := h.j; have hc := h.c; have hb := ceilV_bd (a := x + r.j) (b := r.t) (by omega) h.t.1; unfold addsV; generalize ceilV (x + r.j) r.t = k at *; split
 · have h1 := Int.mul_nonneg (show 0 ≤ k + 1 by omega) (show 0 ≤ r.c by omega); have h2 := Int.mul_le_mul (show k + 1 ≤ 6000000 by omega) hc.2 (show 0 ≤ r.c by omega) (by omega); omega
 · have h1 := Int.mul_nonneg (show 0 ≤ k by omega) (show 0 ≤ r.c by omega); have h2 := Int.mul_le_mul (show k ≤ 6000000 by omega) hc.2 (show 0 ≤ r.c by omega) (by omega); omega
def NxRel (w : World) (L : List RowD) (i : Nat) (x : Int) (vs ve vi : Value) (wr : World) : Prop := ∃ (k : Nat) (s : Int), k ≤ L.length ∧ vs = O Y s ∧ ve = O Y 0 ∧ vi = O Y k ∧ nextV L i x = nxtF (L.getD i row0) i x (L.drop k) k s ∧ 0 ≤ s ∧ s ≤ 20000000 + 60000000000000 * k ∧ Below w.heap.size w wr
theorem nxtF_bd {own : RowD} {i : Nat} {x : Int} (hx : 0 ≤ x ∧ x ≤ 4000000) : ∀ (L : List RowD) (j : Nat) (s : Int), (∀ r ∈ L, RowOk r) → 0 ≤ s → s ≤ nxtF own i x L j s ∧ nxtF own i x L j s ≤ s + 60000000000000 * L.length := by
 intro L; induction L with
 | nil => intro j s _ hs; simp [nxtF]
 | cons r L ih =>
  intro j s h hs; rw [nxtF, List.length_cons]; have hb := addsV_bd (h r (by simp)) own.p hx; split
  · have := ih (j + 1) s (fun r hr => h r (by simp [hr])) hs; omega
  · have := ih (j + 1) (s + addsV r x own.p) (fun r hr => h r (by simp [hr])) (by omega); omega
theorem next_any (v : Value) (L : List RowD) (i : Nat) (x : Int) (w : World) (h : RrAt w v L) (hu : ∀ r ∈ L, RowOk r) (hL : L.length ≤ 8) (hi : i < L.length) (hx : 0 ≤ x ∧ x ≤ 4000000) : Calls Tryz.prog 75 #[v, O Y (i : Int), O Y x] w fun e w' => e = .returned (.tuple #[O Y (nextV L i x), O Y 0]) ∧ Below w.heap.size w w' := by
 obtain ⟨A, c, rfl, hc, _⟩ := id h; have hTh := ZZ (there_any _ L i w h hu hL hi); have hNr := ZZ (fun w => nright1_any x w (by omega)); obtain ⟨own, hown⟩ : ∃ own, L[i]? = some own := ⟨_, GE hi⟩
 have hgo : L.getD i row0 = own := by rw [GD, hown]; rfl
 have hoo := hu own (LM hown); have b1 : ((i : Nat) : Int) < (L.length : Int) := by omega
 have b2 : decide (L.length ≤ i) = false := decide_eq_false (by omega); have b3 : (i : Int) ≤ 8 := by omega
 have hNx := ZZ (show nextV L i x = nxtF (L.getD i row0) i x (L.drop 0) 0 (own.c + own.b) by unfold nextV; rw [hgo]; rfl); replace h := ZZ h; replace hu := ZZ hu; replace hgo := ZZ hgo; replace hx := ZZ hx; replace hi := ZZ hi; go_enter Tryz.func75, Tryz.ntmps75; go_wp2_with fail; refine hTh.out.mono ?_; rintro e w1 ⟨rfl, hb1⟩; have hb1' := ZZ hb1; clear hTh; go_wp2_with fail; refine (hNr.out w1).mono ?_; rintro e w5 ⟨rfl, hw5⟩; rw [hw5]; clear hw5 w5 hNr; obtain ⟨ad, rfl, c0, c1, c2, c3, c4, c5⟩ := (h.out.step hb1).elem i own hown; have hbl := heap_alloc_last w1 (.cells #[O Y own.c, O Y own.b, O Y own.t, O Y own.d, O Y own.j, O Y own.p] 51); have al := (BR w1.heap.size w1).alloc (NR _) (.cells #[O Y own.c, O Y own.b, O Y own.t, O Y own.d, O Y own.j, O Y own.p] 51); obtain ⟨W1, hW1⟩ : ∃ W1, w1.alloc (.cells #[O Y own.c, O Y own.b, O Y own.t, O Y own.d, O Y own.j, O Y own.p] 51) = W1 := ⟨_, rfl⟩
 obtain ⟨g8, hg8⟩ : ∃ g8, w1.heap.size = g8 := ⟨_, rfl⟩
 rw [hW1] at hbl al; have al2 := (BR W1.heap.size W1).alloc (NR _) (.cells #[O Y own.c, O Y own.b] 3); have hbl2 := (al2.block _ (ltA hbl)).trans hbl; have hTw := two_ints W1 own.c own.b; have y0 := bk hbl 0 (O Y own.c); have y1 := bk hbl 1 (O Y own.b); have y2 := bk hbl 2 (O Y own.t); have y3 := bk hbl 3 (O Y own.d); have y4 := bk hbl 4 (O Y own.j); have y5 := bk hbl 5 (O Y own.p); obtain ⟨W2, hW2⟩ : ∃ W2, W1.alloc (.cells #[O Y own.c, O Y own.b] 3) = W2 := ⟨_, rfl⟩
 rw [hW2] at al2 hbl2 hTw; have hAd := nadd_any _ [own.c, own.b] W2 hTw (by have h1 := hoo.c; have h2 := hoo.b; simp; omega) (by simp); rw [show sumF [own.c, own.b] = own.c + own.b by simp [sumF]] at hAd; obtain ⟨s0, hs0⟩ : ∃ s0, own.c + own.b = s0 := ⟨_, rfl⟩
 rw [hs0] at hAd hNx; have hs0b := ZZ (show 0 ≤ s0 ∧ s0 ≤ 20000000 by have h1 := hoo.c; have h2 := hoo.b; omega); have hB2 := ZZ (hb1'.out.trans ((al.trans (al2.mono al.size)).mono hb1'.out.size)); rw [hg8] at hbl2; replace hbl2 := ZZ hbl2; replace hAd := ZZ hAd; replace hs0 := ZZ hs0; replace hoo := ZZ hoo; replace hown := ZZ hown; replace hg8 := ZZ hg8; clear hb1 al al2 hbl hTw; go_wp2_with fail; refine hAd.out.mono ?_; rintro e w5 ⟨rfl, hw5⟩; rw [hw5]; clear hw5 w5 hAd c0 c1 c2 c3 c4 c5 y0 y1 y2 y3 y4 y5; go_wp2_with fail; rw [hg8.out]; go_loopw [9, 10, 38] (fun vs ve vi wr => NxRel W2 L i x vs ve vi wr) (fun _ _ vi _ => L.length - (intOf vi).toNat); case atStart => exact ⟨0, s0, by omega, rfl, rfl, rfl, hNx.out, hs0b.out.1, by have := hs0b.out.2; omega, BR _ _⟩
 case round =>
  obtain ⟨k, s, hk, rfl, rfl, rfl, heq, hsa, hsb, hb⟩ := hrel; have hbo := (hb.block _ (ltA hbl2.out)).trans hbl2.out; have y5 := bk hbo 5 (O Y own.p); by_cases hd : k < L.length
  · have d1 : ((k : Nat) : Int) < (L.length : Int) := by omega
    have d2 : decide (L.length ≤ k) = false := decide_eq_false (by omega); have d5 : (k : Int) ≤ 8 := by omega
    obtain ⟨r, hx1⟩ : ∃ r, L[k]? = some r := ⟨_, GE hd⟩
    obtain ⟨ad2, hA2, c0, c1, c2, c3, c4, c5⟩ := (h.out.step (hB2.out.trans (hb.mono hB2.out.size))).elem k r hx1; injection hA2 with hA2
    subst hA2; have hro := hu.out r (LM hx1); have al := (BR wr.heap.size wr).alloc (NR _) (.cells #[O Y r.c, O Y r.b, O Y r.t, O Y r.d, O Y r.j, O Y r.p] 51); have hbx := heap_alloc_last wr (.cells #[O Y r.c, O Y r.b, O Y r.t, O Y r.d, O Y r.j, O Y r.p] 51); have z5 := cell_keep al (NR _) y5; have x0 := bk hbx 0 (O Y r.c); have x1 := bk hbx 1 (O Y r.b); have x2 := bk hbx 2 (O Y r.t); have x3 := bk hbx 3 (O Y r.d); have x4 := bk hbx 4 (O Y r.j); have x5 := bk hbx 5 (O Y r.p); obtain ⟨W3, hW3⟩ : ∃ W3, wr.alloc (.cells #[O Y r.c, O Y r.b, O Y r.t, O Y r.d, O Y r.j, O Y r.p] 51) = W3 := ⟨_, rfl⟩
    rw [hW3] at z5 al x0 x1 x2 x3 x4 x5; have hB := hb.trans (al.mono hb.size); replace heq := heq.trans (nxtF_cons hx1 s); have hs0 : 0 ≤ s ∧ s ≤ 20000000 + 60000000000000 * (k : Int) := ⟨hsa, hsb⟩
    clear hb al hbx hsa hsb hbo; rw [hgo.out] at heq; by_cases hki : k = i
    · have g1 : ((k : Int) == (i : Int)) = true := by rw [hki]; simp
      rw [if_pos (.inl hki)] at heq; rw [← hgo.out] at heq; replace hki := ZZ hki; clear hro; replace heq := ZZ heq; replace hd := ZZ hd; replace hs0 := ZZ hs0; replace hB := ZZ hB; clear hx1 hk; go_wp2_with fail; exact ⟨⟨k + 1, s, hd.out, rfl, rfl, by go_num, heq.out, hs0.out.1, by have := hs0.out.2; omega, hB.out⟩, by have := hd.out; simp [intOf]; omega⟩
    · have g1 : ((k : Int) == (i : Int)) = false := beq_eq_false_iff_ne.mpr (by omega); by_cases hp : r.p < own.p
      · rw [if_pos (.inr hp)] at heq; rw [← hgo.out] at heq; replace hki := ZZ hki; clear hro; replace heq := ZZ heq; replace hd := ZZ hd; replace hs0 := ZZ hs0; replace hB := ZZ hB; clear hx1 hk; go_wp2_with fail; exact ⟨⟨k + 1, s, hd.out, rfl, rfl, by go_num, heq.out, hs0.out.1, by have := hs0.out.2; omega, hB.out⟩, by have := hd.out; simp [intOf]; omega⟩
      · rw [if_neg (fun e => e.elim hki hp)] at heq; have hab := addsV_bd hro own.p hx.out; have hAs := ZZ (adds_any r x own.p W3 hro hx.out); obtain ⟨n, hn⟩ : ∃ n, addsV r x own.p = n := ⟨_, rfl⟩
        rw [hn] at hab heq hAs; rw [← hgo.out] at heq; have hbb := ZZ (show (0 ≤ s ∧ s ≤ 1000000000000000) ∧ (0 ≤ n ∧ n ≤ 1000000000000000) ∧ 0 ≤ s + n ∧ s + n ≤ 20000000 + 60000000000000 * ((k + 1 : Nat) : Int) by omega); replace heq := ZZ heq; replace hd := ZZ hd; replace hB := ZZ hB; replace hki := ZZ hki; replace hn := ZZ hn; clear hx1 hk hab hs0 hro; go_wp2_with fail; refine hAs.out.mono ?_; rintro e w6 ⟨rfl, hb6⟩; have hB6 := hB.out.trans (hb6.mono hB.out.size); have al7 := (BR w6.heap.size w6).alloc (NR _) (.cells #[O Y s, O Y n] 3); have hTw := two_ints w6 s n; obtain ⟨W7, hW7⟩ : ∃ W7, w6.alloc (.cells #[O Y s, O Y n] 3) = W7 := ⟨_, rfl⟩
        rw [hW7] at al7 hTw; have hB7 := ZZ (hB6.trans (al7.mono hB6.size)); have hAd2 := nadd_any _ [s, n] W7 hTw (by have := hbb.out; simp; omega) (by simp); rw [show sumF [s, n] = s + n by simp [sumF]] at hAd2; replace hAd2 := ZZ hAd2; clear hAs hb6 hB6 al7 hTw x0 x1 x2 x3 x4 x5 c0 c1 c2 c3 c4 c5 z5 y5; go_wp2_with fail; refine hAd2.out.mono ?_; rintro e w8 ⟨rfl, hw8⟩; rw [hw8]; clear hw8 w8 hAd2; go_wp2_with fail; exact ⟨⟨k + 1, s + n, hd.out, rfl, rfl, by go_num, heq.out, hbb.out.2.2.1, hbb.out.2.2.2, hB7.out⟩, by have := hd.out; simp [intOf]; omega⟩
  · have d1 : ¬ (((k : Nat) : Int) < (L.length : Int)) := by omega
    rw [List.drop_of_length_le (by omega), nxtF] at heq; replace heq := ZZ heq; replace hb := ZZ hb; clear hd hk hsa hsb hbo y5; go_wp2_with fail; refine bodyPost_ret (results_tmp2 rfl _ _ _) rfl ?_; exact ⟨by rw [heq.out]; rfl, hB2.out.trans (hb.out.mono hB2.out.size)⟩
def respF (L : List RowD) (i : Nat) (d j : Int) : Nat → Int → Int × Int
 | 0, _ => (0, 13)
 | f + 1, w => if d < nextV L i w ∨ d - nextV L i w < j then (0, 13) else if nextV L i w = w then (j + w, 0) else respF L i d j f (nextV L i w)
def respP (L : List RowD) (i : Nat) : Int × Int := respF L i (L.getD i row0).d (L.getD i row0).j ((L.getD i row0).d.toNat + 2) 0
theorem ceilV_mono {a b c : Int} (ha : 0 ≤ a) (h : a ≤ b) (hc : 1 ≤ c) : ceilV a c ≤ ceilV b c := by
 by_cases h0 : a = 0
 · have := (ceilV_bd (a := b) (b := c) (by omega) hc).1; rw [show ceilV a c = 0 from if_pos h0]; exact this
 · rw [show ceilV a c = (a - 1) / c + 1 from if_neg h0, show ceilV b c = (b - 1) / c + 1 from if_neg (by omega)]; have := Int.ediv_le_ediv (show 0 < c by omega) (show a - 1 ≤ b - 1 by omega); omega
theorem addsV_mono {r : RowD} (h : RowOk r) {x y : Int} (p : Int) (hx : 0 ≤ x) (hxy : x ≤ y) : addsV r x p ≤ addsV r y p := by
 have hj := h.j; have hm := ceilV_mono (a := x + r.j) (b := y + r.j) (c := r.t) (by omega) (by omega) h.t.1; have hc := h.c; unfold addsV; split
 · exact Int.mul_le_mul_of_nonneg_right (by omega) (by omega)
 · exact Int.mul_le_mul_of_nonneg_right hm (by omega)
theorem nxtF_mono {own : RowD} {i : Nat} {x y : Int} (hx : 0 ≤ x) (hxy : x ≤ y) : ∀ (L : List RowD) (j : Nat) (s t : Int), (∀ r ∈ L, RowOk r) → s ≤ t → nxtF own i x L j s ≤ nxtF own i y L j t := by
 intro L; induction L with
 | nil => intro j s t _ h; exact h
 | cons r L ih =>
  intro j s t h hst; rw [nxtF, nxtF]; have hm := addsV_mono (h r (by simp)) own.p hx hxy; split
  · exact ih _ _ _ (fun r hr => h r (by simp [hr])) hst
  · exact ih _ _ _ (fun r hr => h r (by simp [hr])) (by omega)
theorem nextV_bd {L : List RowD} (hu : ∀ r ∈ L, RowOk r) {i : Nat} (hi : i < L.length) {x : Int} (hx : 0 ≤ x ∧ x ≤ 4000000) (hL : L.length ≤ 8) : 0 ≤ nextV L i x ∧ nextV L i x ≤ 1000000000000000 := by
 have hoo := hu (L.getD i row0) (by rw [GD, GE hi]; exact List.getElem_mem hi); have h1 := hoo.c; have h2 := hoo.b; have := nxtF_bd (own := L.getD i row0) (i := i) hx L 0 ((L.getD i row0).c + (L.getD i row0).b) hu (by omega); unfold nextV; omega
theorem resp_any (v : Value) (L : List RowD) (i : Nat) (w : World) (h : RrAt w v L) (hu : ∀ r ∈ L, RowOk r) (hL : L.length ≤ 8) (hi : i < L.length) : Calls Tryz.prog 40 #[v, O Y (i : Int)] w fun e w' => e = .returned (.tuple #[O Y (respP L i).1, O Y (respP L i).2]) ∧ Below w.heap.size w w' := by
 obtain ⟨A, c, rfl, hc, _⟩ := id h; have hTh := ZZ (there_any _ L i w h hu hL hi); obtain ⟨own, hown⟩ : ∃ own, L[i]? = some own := ⟨_, GE hi⟩
 have hgo : L.getD i row0 = own := by rw [GD, hown]; rfl
 have hoo := hu own (LM hown); obtain ⟨ad, rfl, -⟩ := h.elem i own hown; have b1 : ((i : Nat) : Int) < (L.length : Int) := by omega
 have b2 : decide (L.length ≤ i) = false := decide_eq_false (by omega); have b3 : (i : Int) ≤ 8 := by omega
 have hRp : respP L i = respF L i own.d own.j (own.d.toNat + 2) 0 := by unfold respP; rw [hgo]
 obtain ⟨r1, r2, hr⟩ : ∃ r1 r2, respP L i = (r1, r2) := ⟨_, _, rfl⟩
 rw [hr] at hRp ⊢; replace h := ZZ h; replace hu := ZZ hu; replace hgo := ZZ hgo; replace hi := ZZ hi; replace hRp := ZZ hRp; replace hr := ZZ hr; go_enter Tryz.func40, Tryz.ntmps40; go_wp2_with fail; refine wp_scope_ghost2 0 (fun n a' w' => ∃ (gb : Nat) (wv : Int) (u8 u9 u10 u11 u12 u13 u14 u15 u16 u17 u18 u19 u20 u21 u22 u23 u24 u25 u26 u27 u28 u29 u30 u31 u32 u33 u34 u35 u36 u37 u38 u39 u40 u41 u42 u43 u44 u45 u46 u47 u48 u49 u50 u51 : Value), a' = { tmps := #[.slice (some ad) L.length c, O Y (i : Int), undef, undef, O Y 0, O Y 0, .pointer (some ⟨gb, 0, none⟩), O Y wv, u8, u9, u10, u11, u12, u13, u14, u15, u16, u17, u18, u19, u20, u21, u22, u23, u24, u25, u26, u27, u28, u29, u30, u31, u32, u33, u34, u35, u36, u37, u38, u39, u40, u41, u42, u43, u44, u45, u46, u47, u48, u49, u50, u51], defers := [] } ∧ respF L i own.d own.j n wv = (r1, r2) ∧ (0 ≤ wv ∧ wv ≤ own.d ∧ wv ≤ nextV L i wv ∧ own.d + 2 - wv ≤ n) ∧ w'.heap[gb]? = some (.cells #[O Y own.c, O Y own.b, O Y own.t, O Y own.d, O Y own.j, O Y own.p] 51 (0, 0)) ∧ Below w.heap.size w w') rfl ?_ ?_
 · rintro n a' w' ⟨gb, wv, u8, u9, u10, u11, u12, u13, u14, u15, u16, u17, u18, u19, u20, u21, u22, u23, u24, u25, u26, u27, u28, u29, u30, u31, u32, u33, u34, u35, u36, u37, u38, u39, u40, u41, u42, u43, u44, u45, u46, u47, u48, u49, u50, u51, rfl, hl, hwv, hbo, hb⟩; have hod := hoo.d; have hoj := hoo.j; obtain ⟨n, rfl⟩ : ∃ m, n = m + 1 := ⟨n - 1, by omega⟩
   rw [respF] at hl; have hNx := ZZ (next_any _ L i wv w' (h.out.step hb) hu.out hL hi.out (by omega)); have hnb := nextV_bd hu.out hi.out (x := wv) (by omega) hL; obtain ⟨nv, hnv⟩ : ∃ nv, nextV L i wv = nv := ⟨_, rfl⟩
   have hmono := fun (h1 : wv ≤ nv) (h2 : nv ≤ 4000000) => nxtF_mono (own := L.getD i row0) (i := i) hwv.1 h1 L 0 ((L.getD i row0).c + (L.getD i row0).b) _ hu.out (Int.le_refl _); rw [hnv] at hl hNx hnb hwv; replace hb := ZZ hb; have hbo2 := ZZ hbo; clear hTh; by_cases c1 : own.d < nv
   · rw [if_pos (.inl c1)] at hl; injection hl with hl1 hl2
     subst hl1; subst hl2; replace hwv := ZZ hwv; replace hnb := ZZ hnb; replace hmono := ZZ hmono; replace hnv := ZZ hnv; clear hod hoj; go_wp2_with fail; refine hNx.out.mono ?_; rintro e w5 ⟨rfl, hb5⟩; have hbl5 := (hb5.block _ (ltA hbo2.out)).trans hbo2.out; have y3 := bk hbl5 3 (O Y own.d); have y4 := bk hbl5 4 (O Y own.j); have hB5 := ZZ (hb.out.trans (hb5.mono hb.out.size)); clear hNx hb5 hbl5 hbo; go_wp2_with fail; simp only [Exit.jump]; refine bodyPost_ret (results_tmp2 rfl _ _ _) rfl ?_; exact ⟨rfl, hB5.out⟩
   · by_cases c2 : own.d - nv < own.j
     · rw [if_pos (.inr c2)] at hl; injection hl with hl1 hl2
       subst hl1; subst hl2; have e1 : wrap64 (own.d - nv) = own.d - nv := wrapIn (by omega); replace hwv := ZZ hwv; replace hnb := ZZ hnb; replace hmono := ZZ hmono; replace hnv := ZZ hnv; clear hod hoj; go_wp2_with fail; refine hNx.out.mono ?_; rintro e w5 ⟨rfl, hb5⟩; have hbl5 := (hb5.block _ (ltA hbo2.out)).trans hbo2.out; have y3 := bk hbl5 3 (O Y own.d); have y4 := bk hbl5 4 (O Y own.j); have hB5 := ZZ (hb.out.trans (hb5.mono hb.out.size)); clear hNx hb5 hbl5 hbo; go_wp2_with fail; simp only [Exit.jump]; refine bodyPost_ret (results_tmp2 rfl _ _ _) rfl ?_; exact ⟨rfl, hB5.out⟩
     · rw [if_neg (fun e => e.elim c1 c2)] at hl; have e1 : wrap64 (own.d - nv) = own.d - nv := wrapIn (by omega); by_cases c3 : nv = wv
       · rw [if_pos c3] at hl; injection hl with hl1 hl2
         have g3 : (nv != wv) = false := by rw [c3]; simp
         have e2 : wrap64 (own.j + wv) = own.j + wv := wrapIn (by clear e1; omega); have hl3 : r1 = wrap64 (own.j + wv) := by rw [e2]; exact hl1.symm
         replace hl1 := ZZ hl1; replace hl3 := ZZ hl3; subst hl2; replace c3 := ZZ c3; replace hwv := ZZ hwv; replace hnb := ZZ hnb; replace hmono := ZZ hmono; replace hnv := ZZ hnv; replace e2 := ZZ e2; clear hod hoj; go_wp2_with fail; refine hNx.out.mono ?_; rintro e w5 ⟨rfl, hb5⟩; have hbl5 := (hb5.block _ (ltA hbo2.out)).trans hbo2.out; have y3 := bk hbl5 3 (O Y own.d); have y4 := bk hbl5 4 (O Y own.j); have hB5 := ZZ (hb.out.trans (hb5.mono hb.out.size)); clear hNx hb5 hbl5 hbo; go_wp2_with fail; simp only [Exit.jump]; refine bodyPost_ret (results_tmp2 rfl _ _ _) rfl ?_; exact ⟨by first | (rw [hl3.out]; rfl) | (rw [← hl1.out]; rfl), hB5.out⟩
       · rw [if_neg c3] at hl; have g3 : (nv != wv) = true := bne_iff_ne.mpr c3; have hm2 : nv ≤ nextV L i nv := by
          have := hmono (by omega) (by omega); rw [show nxtF (L.getD i row0) i wv L 0 ((L.getD i row0).c + (L.getD i row0).b) = nv from hnv] at this; exact this
         have hw2 := ZZ (show 0 ≤ nv ∧ nv ≤ own.d ∧ nv ≤ nextV L i nv ∧ own.d + 2 - nv ≤ (n : Int) by omega); replace c3 := ZZ c3; replace hwv := ZZ hwv; replace hnb := ZZ hnb; replace hnv := ZZ hnv; replace hm2 := ZZ hm2; replace hl := ZZ hl; clear hod hoj hmono; go_wp2_with fail; refine hNx.out.mono ?_; rintro e w5 ⟨rfl, hb5⟩; have hbl5 := (hb5.block _ (ltA hbo2.out)).trans hbo2.out; have y3 := bk hbl5 3 (O Y own.d); have y4 := bk hbl5 4 (O Y own.j); have hB5 := ZZ (hb.out.trans (hb5.mono hb.out.size)); replace hbl5 := ZZ hbl5; clear hNx hb5 hbo; go_wp2_with fail; refine wp_goto ?_; exact ⟨rfl, n, Nat.lt_succ_self n, gb, nv, _, _, _, _, _, _, _, _, _, _, _, _, _, _, _, _, _, _, _, _, _, _, _, _, _, _, _, _, _, _, _, _, _, _, _, _, _, _, _, _, _, _, _, _, rfl, hl.out, hw2.out, hbl5.out, hB5.out⟩
 · intro hp; go_wp2_with fail; refine hTh.out.mono ?_; rintro e w1 ⟨rfl, hb1⟩; obtain ⟨ad2, hA2, c0, c1, c2, c3, c4, c5⟩ := (h.out.step hb1).elem i own hown; injection hA2 with hA2
   subst hA2; have hbl := heap_alloc_last w1 (.cells #[O Y own.c, O Y own.b, O Y own.t, O Y own.d, O Y own.j, O Y own.p] 51); have hB1 := ZZ (hb1.alloc hb1.size (.cells #[O Y own.c, O Y own.b, O Y own.t, O Y own.d, O Y own.j, O Y own.p] 51)); replace hbl := ZZ hbl; replace hown := ZZ hown; have hod := hoo.d; have hn0 := nextV_bd hu.out hi.out (x := 0) (by omega) hL; have hw0 := ZZ (show 0 ≤ (0 : Int) ∧ 0 ≤ own.d ∧ 0 ≤ nextV L i 0 ∧ own.d + 2 - 0 ≤ ((own.d.toNat + 2 : Nat) : Int) by omega); clear hb1 hn0 hod hTh; replace hp := ZZ hp; go_wp2_with fail; refine wp_label ?_; refine (by assumption : ∀ (a : Act) (w : World), _ → _) _ _ ?_; refine hp.out (own.d.toNat + 2) _ _ ⟨_, 0, _, _, _, _, _, _, _, _, _, _, _, _, _, _, _, _, _, _, _, _, _, _, _, _, _, _, _, _, _, _, _, _, _, _, _, _, _, _, _, _, _, _, _, _, rfl, hRp.out.symm, hw0.out, hbl.out, hB1.out⟩
def accF (L : List RowD) : Nat → Nat → List Int → List Int × Int × Int
 | 0, _, acc => (acc, -1, 0)
 | m + 1, i, acc => if (respP L i).2 = 0 then accF L m (i + 1) (acc ++ [(respP L i).1]) else ([], (i : Int), (respP L i).2)
def accP (L : List RowD) : List Int × Int × Int := accF L L.length 0 []
def AcRel (w : World) (L : List RowD) (vo vi : Value) (wr : World) : Prop := ∃ (k : Nat) (acc : List Int), k ≤ L.length ∧ vi = O Y k ∧ LRow wr w.heap.size 3 1 vo acc.length (acc.map (O Y)) ∧ acc.length = k ∧ accP L = accF L (L.length - k) k acc ∧ Below w.heap.size w wr
theorem accept_any (v : Value) (L : List RowD) (w : World) (h : RrAt w v L) (hu : ∀ r ∈ L, RowOk r) (hL : L.length ≤ 8) : Calls Tryz.prog 15 #[v] w fun e w' => (∃ vo, e = .returned (.tuple #[vo, O Y (accP L).2.1, O Y (accP L).2.2]) ∧ OwnI w' vo (accP L).1) ∧ Below w.heap.size w w' := by
 obtain ⟨A, c, rfl, hc, _⟩ := id h; have hR := ZZ (tright_any _ L w h hu hL); replace h := ZZ h; replace hu := ZZ hu; go_enter Tryz.func15, Tryz.ntmps15; go_wp2_with fail; refine hR.out.mono ?_; rintro e w1 ⟨rfl, hb1⟩; replace hb1 := ZZ hb1; clear hR; go_wp2_with fail; go_loopw [5, 14] (fun vo vi wr => AcRel w1 L vo vi wr) (fun _ vi _ => L.length - (intOf vi).toNat); case atStart => exact ⟨0, [], by omega, rfl, LRow.nil _ _ _ _, rfl, rfl, BR _ _⟩
 case round =>
  obtain ⟨k, acc, hk, rfl, hrow, hal, heq, hb⟩ := hrel; obtain ⟨Ar, co, rfl, -⟩ := LRow.slice hrow; by_cases hd : k < L.length
  · have b1 : ((k : Nat) : Int) < (L.length : Int) := by omega
    have b2 : decide (L.length ≤ k) = false := decide_eq_false (by omega); have b5 : (k : Int) ≤ 8 := by omega
    have hRs := ZZ (resp_any _ L k wr (h.out.step (hb1.out.trans (hb.mono hb1.out.size))) hu.out hL hd); rw [show L.length - k = (L.length - (k + 1)) + 1 by omega, accF] at heq; obtain ⟨r1, r2, hr⟩ : ∃ r1 r2, respP L k = (r1, r2) := ⟨_, _, rfl⟩
    rw [hr] at hRs heq; dsimp only at heq; have hac9 : acc.length ≤ 8 := by omega
    replace hrow := ZZ hrow; replace hb := ZZ hb; replace hd := ZZ hd; replace hal := ZZ hal; replace hr := ZZ hr; clear hk; by_cases h0 : r2 = 0
    · rw [if_pos h0] at heq; subst h0; replace heq := ZZ heq; go_wp2_with fail; refine hRs.out.mono ?_; rintro e w5 ⟨rfl, hb5⟩; have hB5 := ZZ (hb.out.trans (hb5.mono hb.out.size)); have hrow5 := ZZ (LRow.step hrow.out hb5); clear hRs hb5; go_wp2_with (first | (at_builtin; refine wpList_append_one w1 w5 w1.heap.size rfl (.tmp 27) (.tmp 29) 22 3 _ 1 8 rfl Tryz.underlying22 info3T rfl (by decide) (by decide) (.slice Ar acc.length co) acc.length _ _ rfl rfl rfl (by simp [Value.oneCell']) hrow5.out hB5.out (NR _) (by omega) ?_; rintro A1 c1' w7 hrow7 hb7 - hg7) | fail)
      exact ⟨⟨k + 1, acc ++ [r1], hd.out, by go_num, by simpa using hrow7, by simp [hal.out], heq.out, hb7⟩, by have := hd.out; simp [intOf]; omega⟩
    · rw [if_neg h0] at heq; have g1 : (r2 != 0) = true := bne_iff_ne.mpr h0; replace h0 := ZZ h0; replace heq := ZZ heq; go_wp2_with fail; refine hRs.out.mono ?_; rintro e w5 ⟨rfl, hb5⟩; have hB5 := ZZ (hb.out.trans (hb5.mono hb.out.size)); clear hRs hb5; go_wp2_with fail; refine bodyPost_ret (results_tmp3 rfl _ _ _) rfl ?_; exact ⟨⟨_, by rw [heq.out]; rfl, by rw [heq.out]; exact OwnI.nil _⟩, hb1.out.trans (hB5.out.mono hb1.out.size)⟩
  · have b1 : ¬ (((k : Nat) : Int) < (L.length : Int)) := by omega
    rw [show L.length - k = 0 by omega, accF] at heq; have hro := ZZ (show OwnI wr (.slice Ar acc.length co) acc from ⟨LRow.base0 hrow, by omega⟩); replace heq := ZZ heq; replace hb := ZZ hb; replace hal := ZZ hal; clear hd hk hrow; go_wp2_with fail; refine bodyPost_ret (results_tmp3 rfl _ _ _) rfl ?_; exact ⟨⟨_, by rw [heq.out]; rfl, by rw [heq.out]; exact hro.out⟩, hb1.out.trans (hb.out.mono hb1.out.size)⟩
def ImBox (W : World) (g : Nat) (im : ImageD) : Prop := ∃ As Ak At cs ck ct, W.heap[g]? = some (.cells #[O Y im.sw, O Y im.la, O Y im.co, O Y im.inp, .slice As im.safe.length cs, .slice Ak im.blocks.length ck, .slice At im.tasks.length ct] 26 (0, 0)) ∧ ImageAt W (.agg #[O Y im.sw, O Y im.la, O Y im.co, O Y im.inp, .slice As im.safe.length cs, .slice Ak im.blocks.length ck, .slice At im.tasks.length ct]) im
theorem ImBox.step {W W1 : World} {g : Nat} {im : ImageD} (h : ImBox W g im) (hb : Below W.heap.size W W1) : ImBox W1 g im := by
 obtain ⟨As, Ak, At, cs, ck, ct, h1, h2⟩ := h; exact ⟨As, Ak, At, cs, ck, ct, (hb.block _ (ltA h1)).trans h1, h2.step hb⟩
theorem ImageAt.agg {W : World} {im : ImageD} {As Ak At : Option Addr} {cs ck ct : Nat} (h : ImageAt W (.agg #[O Y im.sw, O Y im.la, O Y im.co, O Y im.inp, .slice As im.safe.length cs, .slice Ak im.blocks.length ck, .slice At im.tasks.length ct]) im) : IntsAt W (.slice As im.safe.length cs) im.safe ∧ RowsAt W (.slice Ak im.blocks.length ck) im.blocks ∧ TasksAt W (.slice At im.tasks.length ct) im.tasks := by
 obtain ⟨vs, vb, vt, e, g1, g2, g3⟩ := h; injection e with e
 have e2 := congrArg Array.toList e; simp only [List.cons.injEq, and_true, true_and] at e2; obtain ⟨rfl, rfl, rfl⟩ := e2; exact ⟨g1, g2, g3⟩
def useOf (t : TaskD) : UseD := ⟨t.prio, t.blocks, lensP t⟩
def rowOf (im : ImageD) (t : TaskD) (wait : Int) : RowD := ⟨slotsV t im, wait, t.period, t.deadline, t.jitter, t.prio⟩
theorem juse_any (g i : Nat) (im : ImageD) (t : TaskD) (w0 w : World) (h : ImBox w0 g im) (hb0 : Below w0.heap.size w0 w) (hok : im.ok = true) (hsm : im.small) (him : ImOk im) (ht : im.tasks[i]? = some t) (hE : taskE t im = 0) : Calls Tryz.prog 138 #[O Y (i : Int), .pointer (some ⟨g, 0, none⟩)] w fun e w' => (∃ Ab Al cb cl, e = .returned (.agg #[O Y t.prio, .slice Ab t.blocks.length cb, .slice Al (lensP t).length cl]) ∧ IntsAt w0 (.slice Ab t.blocks.length cb) t.blocks ∧ LRow w' 0 3 1 (.slice Al (lensP t).length cl) (lensP t).length ((lensP t).map (O Y)) ∧ (lensP t).length ≤ 1000) ∧ Below w.heap.size w w' := by
 have him9 := him.tl; obtain ⟨As, Ak, At, cs, ck, ct, hbl0, hI0⟩ := h; have hbl := (hb0.block _ (ltA hbl0)).trans hbl0; have hI := hI0.step hb0; obtain ⟨g1, g2, g3⟩ := hI0.agg; obtain ⟨ad, rfl, hta⟩ := g3.elem i t ht; have hi := (GI.1 ht).1; have b1 : ((i : Nat) : Int) < (im.tasks.length : Int) := by omega
 have b2 : decide (im.tasks.length ≤ i) = false := decide_eq_false (by omega); have b3 : (i : Int) ≤ 8 := by omega
 replace hb0 := ZZ hb0; clear hbl0 hI0; have al := (BR w.heap.size w).alloc (NR _) (.cells #[O Y 0, .slice none 0 0, .slice none 0 0] 47); have hbx0 := heap_alloc_last w (.cells #[O Y 0, .slice none 0 0, .slice none 0 0] 47); obtain ⟨W1, hW1⟩ : ∃ W1, w.alloc (.cells #[O Y 0, .slice none 0 0, .slice none 0 0] 47) = W1 := ⟨_, rfl⟩
 rw [hW1] at al hbx0; have hbl1 := (al.block _ (ltA hbl)).trans hbl; have c0 := bk hbl1 0 (O Y im.sw); have c1 := bk hbl1 1 (O Y im.la); have c2 := bk hbl1 2 (O Y im.co); have c3 := bk hbl1 3 (O Y im.inp); have c4 := bk hbl1 4 (.slice As im.safe.length cs); have c5 := bk hbl1 5 (.slice Ak im.blocks.length ck); have c6 := bk hbl1 6 (.slice (some ad) im.tasks.length ct); have hLc := ZZ (locked_any _ im i t W1 (hI.step al) hok hsm him ht hE); replace hbl1 := ZZ hbl1; replace hta := ZZ hta; replace hi := ZZ hi; clear hbl hI g1 g2 g3; go_enter Tryz.func138, Tryz.ntmps138; go_wp2_with fail; refine hLc.out.mono ?_; rintro e w5 ⟨⟨vl, rfl, hvl, hl9⟩, hb5⟩; obtain ⟨Al, cl, rfl, -⟩ := LRow.slice hvl; have hB5 := al.trans (hb5.mono al.size); obtain ⟨vb', vo', vc', t00, -, -, -, t40, -, -, q1, -, -⟩ := hta.out; replace t00 := cell_keep hb0.out (NR _) t00; replace t40 := cell_keep hb0.out (NR _) t40; have t0 := cell_keep hB5 (NR _) t00; have t4 := cell_keep hB5 (NR _) t40; obtain ⟨Ab, cb, rfl, -⟩ := id q1; have hbl5 := (hb5.block _ (ltA hbl1.out)).trans hbl1.out; have hbx5 := (hb5.block _ (ltA hbx0)).trans hbx0; have c6 := bk hbl5 6 (.slice (some ad) im.tasks.length ct); have hbx : w5.drew.heap[w.heap.size]? = some (.cells #[O Y 0, .slice none 0 0, .slice none 0 0] 47 (0, 0)) := hbx5; have hBd := hB5.drew; have hbx1 := ZZ (show w.heap.size < W1.heap.size from (ltA hbx0)); have q1d := q1; have hl9' := ZZ hl9; have hvd := LRow.step hvl (BR w5.heap.size w5).drew; replace hBd := ZZ hBd; replace q1d := ZZ q1d; replace hvd := ZZ hvd; replace hbx := ZZ hbx; clear hLc hb5 hB5 al hW1 hbx0 hbl5 hbx5 q1 hvl hta t00 t40 c0 c1 c2 c3 c4 c5; go_wp2_with fail; replace hbx := hbx; refine st 15 (S := fun w' => w'.cell? ⟨g, 6, none⟩ = some (.slice (some ad) im.tasks.length ct) ∧ w'.cell? (ad.add (i * 7)) = some (O Y t.prio) ∧ w'.cell? ⟨(ad.add (i * 7)).block, (ad.add (i * 7)).off + 4, none⟩ = some (.slice Ab t.blocks.length cb)) (ds := [14]) ⟨c6, t0, t4⟩ (fun hHeld => ?_); generalize w5.drew = u0 at *; refine pq 0 ?_; refine pq 2 ?_; refine pq 6 ?_; refine pq 8 ?_; refine pq 12 ?_; refine tk 1 hHeld ?_; refine pq 3 ?_; refine pq 4 ?_; refine tk 5 hHeld ?_; refine tk 7 hHeld ?_; refine pq 9 ?_; refine pq 10 ?_; refine tk 11 hHeld ?_; refine pq 13 ?_; refine rg2 14 (fun K hK => ?_); have q0a := bk hbx.out 0 (O Y 0); have q0b := blk_frozen hbx.out 0; have m1 : (u0.setCell ⟨w.heap.size, 0, none⟩ (O Y t.prio)).heap[w.heap.size]? = some (.cells #[O Y t.prio, .slice none 0 0, .slice none 0 0] 47 (0, 0)) := blk_set hbx.out 0 _; have q1a := bk m1 1 (.slice none 0 0); have q1b := blk_frozen m1 1; have m2 : ((u0.setCell ⟨w.heap.size, 0, none⟩ (O Y t.prio)).setCell ⟨w.heap.size, 1, none⟩ (.slice Ab t.blocks.length cb)).heap[w.heap.size]? = some (.cells #[O Y t.prio, .slice Ab t.blocks.length cb, .slice none 0 0] 47 (0, 0)) := blk_set m1 1 _; have q2a := bk m2 2 (.slice none 0 0); have q2b := blk_frozen m2 2; have m3 : (((u0.setCell ⟨w.heap.size, 0, none⟩ (O Y t.prio)).setCell ⟨w.heap.size, 1, none⟩ (.slice Ab t.blocks.length cb)).setCell ⟨w.heap.size, 2, none⟩ (.slice Al (lensP t).length cl)).heap[w.heap.size]? = some (.cells #[O Y t.prio, .slice Ab t.blocks.length cb, .slice Al (lensP t).length cl] 47 (0, 0)) := blk_set m2 2 _; refine skip_ (w1 := ?_) (by rfl) rfl ?_ ?_; rotate_left
 · go_simp; rfl
 refine hK.out _ _ ?_; clear hK K; refine dn ?_; have hbf : Below w.heap.size w (((u0.setCell ⟨w.heap.size, 0, none⟩ (O Y t.prio)).setCell ⟨w.heap.size, 1, none⟩ (.slice Ab t.blocks.length cb)).setCell ⟨w.heap.size, 2, none⟩ (.slice Al (lensP t).length cl)) := ((hBd.out.setCell (p := ⟨w.heap.size, 0, none⟩) (by exact NR _) _).setCell (p := ⟨w.heap.size, 1, none⟩) (by exact NR _) _).setCell (p := ⟨w.heap.size, 2, none⟩) (by exact NR _) _; have hU : LRow (((u0.setCell ⟨w.heap.size, 0, none⟩ (O Y t.prio)).setCell ⟨w.heap.size, 1, none⟩ (.slice Ab t.blocks.length cb)).setCell ⟨w.heap.size, 2, none⟩ (.slice Al (lensP t).length cl)) 0 3 1 (.slice Al (lensP t).length cl) (lensP t).length ((lensP t).map (O Y)) := LRow.base0 (hvd.out.move (fun k hv => by
  have hk := (LRow.lt hvd.out k hv).2.1; have hx := hbx1.out; have hne : k ≠ w.heap.size := by omega
  exact (BH _ _ _ _ (by exact hne)).trans ((BH _ _ _ _ (by exact hne)).trans (BH _ _ _ _ (by exact hne)))))
 generalize (((u0.setCell ⟨w.heap.size, 0, none⟩ (O Y t.prio)).setCell ⟨w.heap.size, 1, none⟩ (.slice Ab t.blocks.length cb)).setCell ⟨w.heap.size, 2, none⟩ (.slice Al (lensP t).length cl)) = W9 at *; replace hU := ZZ hU; replace hbf := ZZ hbf; clear q0a q0b m1 q1a q1b m2 q2a q2b hHeld hbx; go_wp2_with fail; refine bodyPost_ret (results_cell_row rfl _ _ w.heap.size 47 _ (0, 0) _ rfl m3 Tryz.underlying47 rfl (by kernel_rfl)) rfl ?_; exact ⟨⟨Ab, Al, cb, cl, rfl, q1d.out, hU.out, by have := hl9'.out; omega⟩, hbf.out⟩
theorem jrow_any (g i : Nat) (x : Int) (im : ImageD) (t : TaskD) (w : World) (h : ImBox w g im) (hok : im.ok = true) (hsm : im.small) (him : ImOk im) (ht : im.tasks[i]? = some t) (hE : taskE t im = 0) : Calls Tryz.prog 139 #[O Y (i : Int), O Y x, .pointer (some ⟨g, 0, none⟩)] w fun e w' => e = .returned (rowOf im t x).val ∧ Below w.heap.size w w' := by
 have him9 := him.tl; obtain ⟨As, Ak, At, cs, ck, ct, hbl, hI⟩ := h; obtain ⟨g1, g2, g3⟩ := hI.agg; obtain ⟨ad, rfl, hta⟩ := g3.elem i t ht; have hi := (GI.1 ht).1; have b1 : ((i : Nat) : Int) < (im.tasks.length : Int) := by omega
 have b2 : decide (im.tasks.length ≤ i) = false := decide_eq_false (by omega); have b3 : (i : Int) ≤ 8 := by omega
 obtain ⟨vb', vo', vc', t00, t10, t20, t30, t40, t50, t60, q1, q2, q3⟩ := id hta; obtain ⟨Ab, cb, rfl, -⟩ := id q1; obtain ⟨Ao, co, rfl, -⟩ := id q2; obtain ⟨Ac, cc, rfl, -⟩ := id q3; have al := (BR w.heap.size w).alloc (NR _) (.cells #[O Y 0, O Y 0, O Y 0, O Y 0, O Y 0, O Y 0] 51); have hbx0 := heap_alloc_last w (.cells #[O Y 0, O Y 0, O Y 0, O Y 0, O Y 0, O Y 0] 51); obtain ⟨W1, hW1⟩ : ∃ W1, w.alloc (.cells #[O Y 0, O Y 0, O Y 0, O Y 0, O Y 0, O Y 0] 51) = W1 := ⟨_, rfl⟩
 have s1 : W1.heap.size = w.heap.size + 1 := by rw [← hW1, World.size_alloc]
 rw [hW1] at al hbx0; have hbl1 := (al.block _ (ltA hbl)).trans hbl; have c0 := bk hbl1 0 (O Y im.sw); have c1 := bk hbl1 1 (O Y im.la); have c2 := bk hbl1 2 (O Y im.co); have c3 := bk hbl1 3 (O Y im.inp); have c4 := bk hbl1 4 (.slice As im.safe.length cs); have c5 := bk hbl1 5 (.slice Ak im.blocks.length ck); have c6 := bk hbl1 6 (.slice (some ad) im.tasks.length ct); have t0 := cell_keep al (NR _) t00; have t1 := cell_keep al (NR _) t10; have t2 := cell_keep al (NR _) t20; have t3 := cell_keep al (NR _) t30; have t4 := cell_keep al (NR _) t40; have t5 := cell_keep al (NR _) t50; have t6 := cell_keep al (NR _) t60; have al2 := (BR W1.heap.size W1).alloc (NR _) (.cells #[O Y t.prio, O Y t.period, O Y t.deadline, O Y t.jitter, .slice Ab t.blocks.length cb, .slice Ao t.outs.length co, .slice Ac t.code.length cc] 45); have hty := heap_alloc_last W1 (.cells #[O Y t.prio, O Y t.period, O Y t.deadline, O Y t.jitter, .slice Ab t.blocks.length cb, .slice Ao t.outs.length co, .slice Ac t.code.length cc] 45); obtain ⟨W2, hW2⟩ : ∃ W2, W1.alloc (.cells #[O Y t.prio, O Y t.period, O Y t.deadline, O Y t.jitter, .slice Ab t.blocks.length cb, .slice Ao t.outs.length co, .slice Ac t.code.length cc] 45) = W2 := ⟨_, rfl⟩
 rw [hW2] at al2 hty; have al12 := al.trans (al2.mono (by omega)); have hbl2 := (al2.block _ (ltA hbl1)).trans hbl1; have hbx2 := (al2.block _ (ltA hbx0)).trans hbx0; have d0 := bk hbl2 0 (O Y im.sw); have d1 := bk hbl2 1 (O Y im.la); have d2 := bk hbl2 2 (O Y im.co); have d3 := bk hbl2 3 (O Y im.inp); have d4 := bk hbl2 4 (.slice As im.safe.length cs); have d5 := bk hbl2 5 (.slice Ak im.blocks.length ck); have d6 := bk hbl2 6 (.slice (some ad) im.tasks.length ct); have hSl := ZZ (slots_any _ im i t W2 (hI.step al12) hok hsm him ht hE); replace hbl1 := ZZ hbl1; replace hbl2 := ZZ hbl2; replace hbx2 := ZZ hbx2; replace hty := ZZ hty; replace al12 := ZZ al12; replace hi := ZZ hi; replace s1 := ZZ s1; replace al := ZZ al; replace al2 := ZZ al2; clear hbl hI g1 g2 g3 q1 q2 q3 hbx0 t00 t10 t20 t30 t40 t50 t60 hta; have hW1' := hW1; replace hW1' := ZZ hW1'; have e12 : (w.alloc (.cells #[O Y 0, O Y 0, O Y 0, O Y 0, O Y 0, O Y 0] 51)).alloc (.cells #[O Y t.prio, O Y t.period, O Y t.deadline, O Y t.jitter, .slice Ab t.blocks.length cb, .slice Ao t.outs.length co, .slice Ac t.code.length cc] 45) = W2 := by rw [hW1'.out]; exact hW2
 go_enter Tryz.func139, Tryz.ntmps139; go_wp2_with fail; refine hSl.out.mono ?_; rintro e w5 ⟨rfl, hb5⟩; have hB5 := ZZ (al12.out.trans (hb5.mono al12.out.size)); have hty5 := (hb5.block _ (ltA hty.out)).trans hty.out; have hbx5 := (hb5.block _ (ltA hbx2.out)).trans hbx2.out; clear c0 c1 c2 c3 c4 c5 c6 d0 d1 d2 d3 d4 d5 d6 t0 t1 t2 t3 t4 t5 t6 hSl hb5 hW1 hW2 e12; have y0 := bk hty5 0 (O Y t.prio); have y1 := bk hty5 1 (O Y t.period); have y2 := bk hty5 2 (O Y t.deadline); have y3 := bk hty5 3 (O Y t.jitter); replace hbx5 := ZZ hbx5; replace hty5 := ZZ hty5; have hV : Hid ((rowOf im t x).val = .agg #[O Y (slotsV t im), O Y x, O Y t.period, O Y t.deadline, O Y t.jitter, O Y t.prio]) := ZZ rfl; generalize slotsV t im = sv at *; have hsz51 : (Tryz.prog.info? 51).map (·.size) = some 6 := by kernel_rfl
 have hone : Array.all (#[O Y sv, O Y x, O Y t.period, O Y t.deadline, O Y t.jitter, O Y t.prio] : Array Value) (·.oneCell') = true := by kernel_rfl
 go_wp2_with (first | (refine wpList_store_row rfl 51 _ _ rfl w.heap.size #[O Y sv, O Y x, O Y t.period, O Y t.deadline, O Y t.jitter, O Y t.prio] rfl rfl 51 _ hbx5.out hsz51 rfl hone ?_) | fail)
 have m6 := setRow_heap w5 w.heap.size _ #[O Y sv, O Y x, O Y t.period, O Y t.deadline, O Y t.jitter, O Y t.prio] 51 (0, 0) hbx5.out; have hbf := Below.setRow hB5.out #[O Y sv, O Y x, O Y t.period, O Y t.deadline, O Y t.jitter, O Y t.prio] (NR w.heap.size); refine bodyPost_ret (results_cell_row rfl _ _ w.heap.size 51 _ (0, 0) _ rfl m6 Tryz.underlying51 rfl (by kernel_rfl)) rfl ?_; exact ⟨by rw [hV.out], hbf⟩
end Go.Proofs.YtoopeamoejmjeaaGreat.Tp
namespace Go.Proofs.YtoopeamoejmjeaaGreat.Tp
open RowKit YtoopeamoejmjeaaGreatW.PrintWords Tm
theorem task_nums {im : ImageD} (h : im.ok = true) {t : TaskD} (ht : t ∈ im.tasks) : (1 ≤ t.prio ∧ t.prio ≤ 100) ∧ (1 ≤ t.period ∧ t.period ≤ 1048576) ∧ (1 ≤ t.deadline ∧ t.deadline ≤ 1048576) ∧ (0 ≤ t.jitter ∧ t.jitter ≤ 1048576) := by
 have hk := im_task h ht; unfold TaskD.ok numsB at hk; simp only [Bool.and_eq_true, beq_iff_eq] at hk; obtain ⟨⟨h1, h2, h3, h4⟩, -⟩ := hk; unfold mx mn at h1 h2 h3 h4; have g1 : 1 ≤ t.prio ∧ t.prio ≤ 100 := by split at h1 <;> split at h1 <;> omega
 have g2 : 1 ≤ t.period ∧ t.period ≤ 1048576 := by split at h2 <;> split at h2 <;> omega
 have g4 : 0 ≤ t.jitter ∧ t.jitter ≤ 1048576 := by split at h4 <;> split at h4 <;> omega
 have g3 : 1 ≤ t.deadline ∧ t.deadline ≤ 1048576 := by repeat' split at h3
                                                       all_goals omega
 exact ⟨g1, g2, g3, g4⟩
theorem secs_lock {l : List I3} {h : List Int} {E : List Nat} {l0 : List I3} {M : List Int} : ∀ (r : List I3) (k : Nat) (fr : Bool) (o out : List Int) (acc : List (Int × Int)), lockF l h E r k fr o = some out → (sectF l0 M r k acc).length + o.length = acc.length + out.length := by
 intro r; induction r with
 | nil =>
  intro k fr o out acc h1; rw [lockF] at h1; injection h1 with h1
  subst h1; rw [sectF]
 | cons x r ih =>
  intro k fr o out acc h1; rw [lockF] at h1; rw [sectF]; by_cases h23 : x.o = 23
  · rw [if_pos h23] at h1 ⊢; split at h1
    · have := ih (k + 1) _ _ _ (acc ++ [(x.a, wayV l0 M 201 (k + 1) (M.getD k 0).toNat + 1)]) h1; simp only [List.length_append, List.length_cons, List.length_nil] at this; omega
    · cases h1
  · rw [if_neg h23] at h1 ⊢; split at h1
    · exact ih _ _ _ _ _ h1
    · split at h1
      · split at h1
        · exact ih _ _ _ _ _ h1
        · cases h1
      · exact ih _ _ _ _ _ h1
theorem secs_bd {l : List I3} (hl : OkL l) {M : List Int} : ∀ (r : List I3) (k : Nat) (acc : List (Int × Int)), (∀ p ∈ acc, 0 ≤ p.2 ∧ p.2 ≤ 1048578) → ∀ p ∈ sectF l M r k acc, 0 ≤ p.2 ∧ p.2 ≤ 1048578 := by
 intro r; induction r with
 | nil => intro k acc h p hp; rw [sectF] at hp; exact h p hp
 | cons x r ih =>
  intro k acc h; rw [sectF]; split
  · refine ih (k + 1) _ ?_; intro p hp; rcases List.mem_append.1 hp with hp | hp
    · exact h p hp
    · rw [List.mem_singleton.1 hp]; have := wayV_bd hl M 201 (k + 1) (M.getD k 0).toNat
      show 0 ≤ wayV l M 201 (k + 1) (M.getD k 0).toNat + 1 ∧ wayV l M 201 (k + 1) (M.getD k 0).toNat + 1 ≤ 1048578; omega
  · exact ih _ _ h
theorem lens_bd {t : TaskD} (hl : OkL t.code) : ∀ n ∈ lensP t, 0 ≤ n ∧ n ≤ 1048578 := by
 intro n hn; unfold lensP at hn; obtain ⟨p, hp, rfl⟩ := List.mem_map.1 hn; exact secs_bd hl _ _ _ (fun p hp => by cases hp) p hp
theorem rises_ris {e : Int} : ∀ (l : List Int) (last : Int), risesB e last l = true → ∀ i x, l[i]? = some x → last < x ∧ x < e ∧ ∀ y, l[i + 1]? = some y → x < y := by
 intro l; induction l with
 | nil => intro last h i x hx; simp at hx
 | cons n l ih =>
  intro last h i x hx; rw [risesB] at h; split at h
  · cases h
  · rename_i hn; cases i with
    | zero =>
     have hx : n = x := by simpa using hx
     subst hx; refine ⟨by omega, by omega, fun y hy => ?_⟩; exact (ih n h 0 y (by simpa using hy)).1
    | succ i =>
     have hx : l[i]? = some x := by simpa using hx
     obtain ⟨g1, g2, g3⟩ := ih n h i x hx; exact ⟨by omega, g2, fun y hy => g3 y (by simpa using hy)⟩
theorem task_jblk {t : TaskD} {im : ImageD} (h : taskE t im = 0) : jblkE t = 0 := by
 unfold taskE at h; split at h
 · split at h
   · assumption
   · exact h
 · rename_i hn; exact absurd h hn
theorem lens_len {t : TaskD} {im : ImageD} (hE : taskE t im = 0) : (lensP t).length = t.blocks.length := by
 have hj := task_jblk hE; unfold jblkE at hj; split at hj
 · rename_i h0; split at hj
   · rename_i h1; unfold locksE at h0; unfold locksO at h1; split at h0
     · rename_i hw; rw [if_pos hw] at h1; cases hr : lockR t.code with
       | none => rw [hr] at h0; cases h0
       | some out =>
        rw [hr] at h1; have h1 : out = t.blocks := h1; have := secs_lock (l0 := t.code) (M := matchP t.code) _ _ _ _ _ [] hr; unfold lensP sectsP; rw [List.length_map, ← h1]; simpa using this
     · rename_i hw; exact absurd h0 hw
   · cases hj
 · rename_i hn; exact absurd hj hn
theorem use_ok {im : ImageD} (hok : im.ok = true) (hsm : im.small) (him : ImOk im) {t : TaskD} (ht : t ∈ im.tasks) (hE : taskE t im = 0) : UseOk im.blocks.length (useOf t) := by
 have hn := task_nums hok ht; have hk := im_task hok ht; unfold TaskD.ok at hk; simp only [Bool.and_eq_true] at hk; refine ⟨hn.1.1, hn.1.2, lens_len hE, (him.tasks t ht).bl, ?_, fun n hm => ?_⟩
 · intro i x hx; obtain ⟨g1, g2, g3⟩ := rises_ris _ _ hk.2.2.1 i x hx; exact ⟨by omega, g2, g3⟩
 · have := lens_bd (task_code hok hsm ht) n hm; omega
theorem foldB_wait {c : List Int} {own B : Int} (u : UseD) : ∀ (bl nl : List Int) (s : Int), (∀ n ∈ nl, 0 ≤ n ∧ n ≤ B) → 0 ≤ s ∧ s ≤ B → 0 ≤ foldB (waitF c own) u bl nl s ∧ foldB (waitF c own) u bl nl s ≤ B := by
 intro bl; induction bl with
 | nil => intro nl s _ h; simpa [foldB] using h
 | cons b bl ih =>
  intro nl s hn h; cases nl with
  | nil => simpa [foldB] using h
  | cons n nl =>
   rw [foldB]; refine ih nl _ (fun m hm => hn m (List.mem_cons_of_mem _ hm)) ?_; have := hn n (List.mem_cons_self ..); unfold waitF maxC; split
   · split <;> omega
   · exact h
theorem foldL_wait {c : List Int} {own B : Int} : ∀ (L : List UseD) (s : Int), (∀ u ∈ L, ∀ n ∈ u.lens, 0 ≤ n ∧ n ≤ B) → 0 ≤ s ∧ s ≤ B → 0 ≤ foldL (waitF c own) L s ∧ foldL (waitF c own) L s ≤ B := by
 intro L; induction L with
 | nil => intro s _ h; simpa [foldL] using h
 | cons u L ih =>
  intro s hn h; rw [foldL]; exact ih _ (fun v hv => hn v (List.mem_cons_of_mem _ hv)) (foldB_wait u _ _ s (hn u (List.mem_cons_self ..)) h)
def usesOf (im : ImageD) : List UseD := im.tasks.map useOf
def waitsOf (im : ImageD) : List Int := waitsP im.blocks.length (usesOf im)
def rowsF (im : ImageD) : List TaskD → List Int → List RowD
 | t :: r, x :: s => rowOf im t x :: rowsF im r s
 | _, _ => []
def rowsOf (im : ImageD) : List RowD := rowsF im im.tasks (waitsOf im)
theorem waitsOf_len (im : ImageD) : (waitsOf im).length = im.tasks.length := by simp [waitsOf, waitsP, usesOf]
theorem allF_ok {im : ImageD} : ∀ (L : List TaskD) (k : Nat), (allF im L k).2 = 0 → ∀ t ∈ L, taskE t im = 0 := by
 intro L; induction L with
 | nil => intro k _ t ht; cases ht
 | cons t0 L ih =>
  intro k h t ht; rw [allF] at h; split at h
  · rename_i h0; rcases List.mem_cons.1 ht with rfl | ht
    · exact h0
    · exact ih _ h t ht
  · rename_i h0; exact absurd h h0
theorem uses_ok {im : ImageD} (hok : im.ok = true) (hsm : im.small) (him : ImOk im) (hA : (allP im).2 = 0) : ∀ u ∈ usesOf im, UseOk im.blocks.length u := by
 intro u hu; obtain ⟨t, ht, rfl⟩ := List.mem_map.1 hu; exact use_ok hok hsm him ht (allF_ok _ _ hA t ht)
theorem waits_bd {im : ImageD} (hok : im.ok = true) (hsm : im.small) : ∀ x ∈ waitsOf im, 0 ≤ x ∧ x ≤ 1048578 := by
 intro x hx; unfold waitsOf waitsP at hx; obtain ⟨u, hu, rfl⟩ := List.mem_map.1 hx; refine foldL_wait _ _ ?_ (by omega); intro u hu n hn; obtain ⟨t, ht, rfl⟩ := List.mem_map.1 hu; exact lens_bd (task_code hok hsm ht) n hn
theorem row_ok {im : ImageD} (hok : im.ok = true) (hsm : im.small) {t : TaskD} (ht : t ∈ im.tasks) {x : Int} (hx : 0 ≤ x ∧ x ≤ 1048578) : RowOk (rowOf im t x) := by
 have hn := task_nums hok ht; have hh := imhead_bd hok; have hw := worst_bd (task_code hok hsm ht); refine ⟨?_, ⟨hx.1, by show x ≤ _; omega⟩, hn.2.1, hn.2.2.1, hn.2.2.2, hn.1⟩; show 1 ≤ slotsV t im ∧ slotsV t im ≤ 10000000; unfold slotsV; omega
theorem rowsF_ok {im : ImageD} (hok : im.ok = true) (hsm : im.small) : ∀ (L : List TaskD) (s : List Int), (∀ t ∈ L, t ∈ im.tasks) → (∀ x ∈ s, 0 ≤ x ∧ x ≤ 1048578) → ∀ r ∈ rowsF im L s, RowOk r := by
 intro L; induction L with
 | nil => intro s _ _ r hr; simp [rowsF] at hr
 | cons t L ih =>
  intro s h1 h2 r hr; cases s with
  | nil => simp [rowsF] at hr
  | cons x s =>
   rw [rowsF] at hr; rcases List.mem_cons.1 hr with rfl | hr
   · exact row_ok hok hsm (h1 t (List.mem_cons_self ..)) (h2 x (List.mem_cons_self ..))
   · exact ih s (fun t ht => h1 t (List.mem_cons_of_mem _ ht)) (fun x hx => h2 x (List.mem_cons_of_mem _ hx)) r hr
theorem rows_ok {im : ImageD} (hok : im.ok = true) (hsm : im.small) : ∀ r ∈ rowsOf im, RowOk r := rowsF_ok hok hsm _ _ (fun _ h => h) (waits_bd hok hsm)
theorem rowsF_len {im : ImageD} : ∀ (L : List TaskD) (s : List Int), s.length = L.length → (rowsF im L s).length = L.length := by
 intro L; induction L with
 | nil => intro s h; cases s <;> simp [rowsF] at *
 | cons t L ih =>
  intro s h; cases s with
  | nil => simp at h
  | cons x s => rw [rowsF, List.length_cons, List.length_cons, ih s (by simpa using h)]
theorem rowsOf_len (im : ImageD) : (rowsOf im).length = im.tasks.length := rowsF_len _ _ (waitsOf_len im)
theorem rowsF_get {im : ImageD} : ∀ (L : List TaskD) (s : List Int) (k : Nat) (t : TaskD) (x : Int), L[k]? = some t → s[k]? = some x → (rowsF im L s)[k]? = some (rowOf im t x) := by
 intro L; induction L with
 | nil => intro s k t x h; simp at h
 | cons t0 L ih =>
  intro s k t x h1 h2; cases s with
  | nil => simp at h2
  | cons x0 s =>
   rw [rowsF]; cases k with
   | zero =>
    have h1 : t0 = t := by simpa using h1
    have h2 : x0 = x := by simpa using h2
    rw [h1, h2]; rfl
   | succ k => exact ih s k t x (by simpa using h1) (by simpa using h2)
theorem rowsOf_take {im : ImageD} {k : Nat} {t : TaskD} {x : Int} (ht : im.tasks[k]? = some t) (hx : (waitsOf im)[k]? = some x) : (rowsOf im).take (k + 1) = (rowsOf im).take k ++ [rowOf im t x] := by
 rw [List.take_add_one, show (rowsOf im)[k]? = some (rowOf im t x) from rowsF_get _ _ k t x ht hx]; rfl
end Go.Proofs.YtoopeamoejmjeaaGreat.Tp
namespace Go.Proofs.YtoopeamoejmjeaaGreat.Tp
open RowKit YtoopeamoejmjeaaGreatW.PrintWords YtoopeamoejmjeaaGreatW.PrintLast YtoopeamoejmjeaaGreatW.PrintMore Tm
theorem judging_any (v : Value) (im : ImageD) (w : World) (h : ImageAt w v im) : Calls Tryz.prog 101 #[v] w fun e w' => (∃ g, e = .returned (.agg #[.func (.func 138) #[] #[.pointer (some ⟨g, 0, none⟩)], .func (.func 139) #[] #[.pointer (some ⟨g, 0, none⟩)]]) ∧ ImBox w' g im) ∧ Below w.heap.size w w' := by
 obtain ⟨vs, vb, vt, rfl, g1, g2, g3⟩ := id h; obtain ⟨As, cs, rfl, -⟩ := id g1; obtain ⟨Ak, ck, rfl, -⟩ := id g2; obtain ⟨At, ct, rfl, -⟩ := id g3; have al := (BR w.heap.size w).alloc (NR _) (.cells #[O Y im.sw, O Y im.la, O Y im.co, O Y im.inp, .slice As im.safe.length cs, .slice Ak im.blocks.length ck, .slice At im.tasks.length ct] 26); have hbl := heap_alloc_last w (.cells #[O Y im.sw, O Y im.la, O Y im.co, O Y im.inp, .slice As im.safe.length cs, .slice Ak im.blocks.length ck, .slice At im.tasks.length ct] 26); obtain ⟨W1, hW1⟩ : ∃ W1, w.alloc (.cells #[O Y im.sw, O Y im.la, O Y im.co, O Y im.inp, .slice As im.safe.length cs, .slice Ak im.blocks.length ck, .slice At im.tasks.length ct] 26) = W1 := ⟨_, rfl⟩
 rw [hW1] at al hbl; have hbx : ImBox W1 w.heap.size im := ⟨As, Ak, At, cs, ck, ct, hbl, h.step al⟩
 replace hbx := ZZ hbx; replace al := ZZ al; clear g1 g2 g3 hbl h; go_enter Tryz.func101, Tryz.ntmps101; go_wp2_with fail; have a2 := (BR W1.heap.size W1).alloc (NR _) (.cells #[.func (.func 138) #[] #[.pointer (some ⟨w.heap.size, 0, none⟩)], .func (.func 139) #[] #[.pointer (some ⟨w.heap.size, 0, none⟩)]] 218); have m2 := heap_alloc_last W1 (.cells #[.func (.func 138) #[] #[.pointer (some ⟨w.heap.size, 0, none⟩)], .func (.func 139) #[] #[.pointer (some ⟨w.heap.size, 0, none⟩)]] 218); obtain ⟨W2, hW2⟩ : ∃ W2, W1.alloc (.cells #[.func (.func 138) #[] #[.pointer (some ⟨w.heap.size, 0, none⟩)], .func (.func 139) #[] #[.pointer (some ⟨w.heap.size, 0, none⟩)]] 218) = W2 := ⟨_, rfl⟩
 rw [hW2] at a2 m2; have a3 := (BR W2.heap.size W2).alloc (NR _) (.cells #[.func (.func 138) #[] #[.pointer (some ⟨w.heap.size, 0, none⟩)], .func (.func 139) #[] #[.pointer (some ⟨w.heap.size, 0, none⟩)]] 218); have m3 := (a3.block _ (ltA m2)).trans m2; rw [hW2]; have a23 := a2.trans (a3.mono a2.size); refine bodyPost_ret (results_cell_row rfl _ _ W1.heap.size 218 _ (0, 0) _ rfl m3 Tryz.underlying218 rfl (by kernel_rfl)) rfl ?_; exact ⟨⟨_, rfl, hbx.out.step a23⟩, al.out.trans (a23.mono al.out.size)⟩
end Go.Proofs.YtoopeamoejmjeaaGreat.Tp
