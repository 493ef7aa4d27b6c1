/- Steps of the walk, merged and shortened by a program (fit.py). -/
import Derived.Lib.Hide
import Derived.Test.YtoopeamoejmjeaaGreatA01
import Derived.Test.YtoopeamoejmjeaaGreatA02
import Derived.Test.YtoopeamoejmjeaaGreatWCut
set_option linter.unusedVariables false
set_option linter.unusedSimpArgs false
set_option maxRecDepth 100000
set_option maxHeartbeats 4000000
open Nat renaming le_refl → NR
open List renaming getElem?_eq_getElem → GE
open Go.RowKit.Below renaming refl → BR
open ByteArray renaming empty → BE
open List renaming getD_eq_getElem?_getD → GD
open Array renaming mem_of_getElem? → AM
open List renaming mem_of_getElem? → LM
open List renaming getElem?_eq_some_iff → GI
open List renaming map_toArray → MA
open Go.RowKit.Below renaming heap_setCell → BH
open Go.Lib renaming hid → ZZ
open Go.Value renaming int → O
open Go.IntKind renaming i64 → Y
namespace Go.Proofs.YtoopeamoejmjeaaGreat.Tp
open RowKit YtoopeamoejmjeaaGreatW.PrintWords YtoopeamoejmjeaaGreatW.PrintLast YtoopeamoejmjeaaGreatW.PrintMore Tm
theorem idxQ (g : Nat) (k : Nat) (w : World) (hk : k < 4) : (Instr.index 212 (.agg #[.pointer (some ⟨g, 0, none⟩), .pointer (some ⟨g, 1, none⟩), .pointer (some ⟨g, 2, none⟩), .pointer (some ⟨g, 3, none⟩)]) (O Y (k : Int))).run Tryz.prog w = .ok (.pointer (some ⟨g, k, none⟩)) w := by
 obtain ⟨i0, hi, hz⟩ := Option.map_eq_some_iff.1 (show (Tryz.prog.info? 211).map (·.size) = some 1 by kernel_rfl); rcases (by omega : k = 0 ∨ k = 1 ∨ k = 2 ∨ k = 3) with rfl | rfl | rfl | rfl <;> simp [Instr.index, run_underlying Tryz.underlying212, asIntOf, asAgg, part, sizeOf, typeInfo, hi, hz, isAgg, run_underlying Tryz.underlying211]
def taskS (t : TaskD) : ByteArray := catS BE [t.prio, t.period, t.deadline, t.jitter] ++ listS t.blocks ++ listS t.outs ++ progS t.code
def TaskD.nums (t : TaskD) : List Int := [t.prio, t.period, t.deadline, t.jitter]
def upTo (k : Nat) (j : Nat) (x : Int) : Value := O Y (if j < k then x else 0)
def TkRel (w : World) (g : Nat) (s : ByteArray) (at_ : Nat) (t : TaskD) (vi : Value) (wr : World) : Prop := ∃ k : Nat, k ≤ 4 ∧ vi = O Y k ∧ RdAt wr g s (at_ + (catS BE (t.nums.take k)).size) ∧ wr.heap[w.heap.size]? = some (.cells #[O Y 0, O Y 0, O Y 0, O Y 0, .slice none 0 0, .slice none 0 0, .slice none 0 0] 45 (0, 0)) ∧ wr.heap[w.heap.size + 1]? = some (.cells #[upTo k 0 t.prio, upTo k 1 t.period, upTo k 2 t.deadline, upTo k 3 t.jitter, .slice none 0 0, .slice none 0 0, .slice none 0 0] 45 (0, 0)) ∧ Keeps [g] w wr
theorem blk_keeps {S : List Nat} {w w1 : World} {g : Nat} {o : Obj} (h : w.heap[g]? = some o) (hk : Keeps S w w1) (hg : g ∉ S) : w1.heap[g]? = some o := (hk.block g (ltA h) hg).trans h
structure TaskOk (t : TaskD) : Prop where
 nums : Small [t.prio, t.period, t.deadline, t.jitter]
 blocks : Small t.blocks
 outs : Small t.outs
 bl : t.blocks.length ≤ 16
 ol : t.outs.length ≤ 16
 cs : ∀ x ∈ t.code, SmI x
 co : t.code.all okI = true
 cl : t.code.length ≤ 200
 cb : (catI BE t.code).size ≤ 4000
theorem TaskOk.num {t : TaskD} (h : TaskOk t) (k : Nat) (hk : k < 4) : Sm (t.nums.getD k 0) := by
 have := h.nums (t.nums.getD k 0); rcases (by omega : k = 0 ∨ k = 1 ∨ k = 2 ∨ k = 3) with rfl | rfl | rfl | rfl <;> exact this (by simp [TaskD.nums])
theorem task_rd (g : Nat) (s : ByteArray) (at_ : Nat) (t : TaskD) (ht : TaskOk t) (h : Sub s at_ (taskS t)) (w : World) (hr : RdAt w g s at_) (hs : s.size ≤ 1000000000) : Calls Tryz.prog 99 #[.pointer (some ⟨g, 0, none⟩)] w fun e w' => ∃ vb vo vc, e = .returned (.agg #[O Y t.prio, O Y t.period, O Y t.deadline, O Y t.jitter, vb, vo, vc]) ∧ LRow w' w.heap.size 3 1 vb t.blocks.length (t.blocks.map (O Y)) ∧ LRow w' w.heap.size 3 1 vo t.outs.length (t.outs.map (O Y)) ∧ LRow w' w.heap.size 127 3 vc t.code.length (t.code.flatMap I3.enc) ∧ RdAt w' g s (at_ + (taskS t).size) ∧ Keeps [g] w w' := by
 have hgl := ZZ hr.lt; have hN0 := fun w hr => ZZ (num_any g s (at_ + (catS BE (t.nums.take 0)).size) t.prio (ht.num 0 (by omega)) (Sub.take (show Sub s at_ (catS BE t.nums) from h.left.left.left) 0 t.prio rfl).1 w hr hs); rw [Nat.add_assoc, ← (Sub.take (show Sub s at_ (catS BE t.nums) from h.left.left.left) 0 t.prio rfl).2] at hN0; replace hN0 := ZZ hN0; have hN1 := fun w hr => ZZ (num_any g s (at_ + (catS BE (t.nums.take 1)).size) t.period (ht.num 1 (by omega)) (Sub.take (show Sub s at_ (catS BE t.nums) from h.left.left.left) 1 t.period rfl).1 w hr hs); rw [Nat.add_assoc, ← (Sub.take (show Sub s at_ (catS BE t.nums) from h.left.left.left) 1 t.period rfl).2] at hN1; replace hN1 := ZZ hN1; have hN2 := fun w hr => ZZ (num_any g s (at_ + (catS BE (t.nums.take 2)).size) t.deadline (ht.num 2 (by omega)) (Sub.take (show Sub s at_ (catS BE t.nums) from h.left.left.left) 2 t.deadline rfl).1 w hr hs); rw [Nat.add_assoc, ← (Sub.take (show Sub s at_ (catS BE t.nums) from h.left.left.left) 2 t.deadline rfl).2] at hN2; replace hN2 := ZZ hN2; have hN3 := fun w hr => ZZ (num_any g s (at_ + (catS BE (t.nums.take 3)).size) t.jitter (ht.num 3 (by omega)) (Sub.take (show Sub s at_ (catS BE t.nums) from h.left.left.left) 3 t.jitter rfl).1 w hr hs); rw [Nat.add_assoc, ← (Sub.take (show Sub s at_ (catS BE t.nums) from h.left.left.left) 3 t.jitter rfl).2] at hN3; replace hN3 := ZZ hN3; have hL1 := fun w hr => ZZ (list_rd g s (at_ + (catS BE t.nums).size) t.blocks ht.blocks ht.bl h.left.left.right w hr hs); have hL2 := fun w hr => ZZ (list_rd g s (at_ + (catS BE t.nums ++ listS t.blocks).size) t.outs ht.outs ht.ol h.left.right w hr hs); have hC := fun w hr => ZZ (code_rd g s (at_ + (catS BE t.nums ++ listS t.blocks ++ listS t.outs).size) t.code ht.cs ht.co ht.cl ht.cb h.right w hr hs); rw [Nat.add_assoc, ← ByteArray.size_append] at hL1 hL2 hC; replace hL1 := ZZ hL1; replace hL2 := ZZ hL2; replace hC := ZZ hC; have hT : taskS t = catS BE t.nums ++ listS t.blocks ++ listS t.outs ++ progS t.code := rfl; replace hT := ZZ hT; clear h; replace hr := ZZ hr; go_enter Tryz.func99, Tryz.ntmps99; go_wp2_with fail; obtain ⟨w0, hw0⟩ : ∃ w0, ((w.alloc (.cells #[O Y 0, O Y 0, O Y 0, O Y 0, .slice none 0 0, .slice none 0 0, .slice none 0 0] 45)).alloc (.cells #[O Y 0, O Y 0, O Y 0, O Y 0, .slice none 0 0, .slice none 0 0, .slice none 0 0] 45)) = w0 := ⟨_, rfl⟩
 have q1 : w0.heap[w.heap.size + 1]? = some (.cells #[O Y 0, O Y 0, O Y 0, O Y 0, .slice none 0 0, .slice none 0 0, .slice none 0 0] 45 (0, 0)) := by rw [← hw0]; simpa using heap_alloc_last (w.alloc (.cells #[O Y 0, O Y 0, O Y 0, O Y 0, .slice none 0 0, .slice none 0 0, .slice none 0 0] 45)) (.cells #[O Y 0, O Y 0, O Y 0, O Y 0, .slice none 0 0, .slice none 0 0, .slice none 0 0] 45)
 have q0 : w0.heap[w.heap.size]? = some (.cells #[O Y 0, O Y 0, O Y 0, O Y 0, .slice none 0 0, .slice none 0 0, .slice none 0 0] 45 (0, 0)) := by rw [← hw0, Below.heap_alloc _ _ _ (by simp)]; exact heap_alloc_last w _
 have qB : Below w.heap.size w w0 := by rw [← hw0]; exact ((BR w.heap.size w).alloc (NR _) _).alloc (by simp) _
 have hr0 := ZZ (hr.out.step qB); replace q1 := ZZ q1; replace q0 := ZZ q0; replace qB := ZZ (Keeps.of_below qB [g]); rw [hw0]; clear hw0; have i0 : ∀ w', (Instr.index 212 (.agg #[.pointer (some ⟨w.heap.size + 1, 0, none⟩), .pointer (some ⟨w.heap.size + 1, 1, none⟩), .pointer (some ⟨w.heap.size + 1, 2, none⟩), .pointer (some ⟨w.heap.size + 1, 3, none⟩)]) (O Y 0)).run Tryz.prog w' = .ok (.pointer (some ⟨w.heap.size + 1, 0, none⟩)) w' := fun w' => idxQ (w.heap.size + 1) 0 w' (by omega); have i1 : ∀ w', (Instr.index 212 (.agg #[.pointer (some ⟨w.heap.size + 1, 0, none⟩), .pointer (some ⟨w.heap.size + 1, 1, none⟩), .pointer (some ⟨w.heap.size + 1, 2, none⟩), .pointer (some ⟨w.heap.size + 1, 3, none⟩)]) (O Y 1)).run Tryz.prog w' = .ok (.pointer (some ⟨w.heap.size + 1, 1, none⟩)) w' := fun w' => idxQ (w.heap.size + 1) 1 w' (by omega); have i2 : ∀ w', (Instr.index 212 (.agg #[.pointer (some ⟨w.heap.size + 1, 0, none⟩), .pointer (some ⟨w.heap.size + 1, 1, none⟩), .pointer (some ⟨w.heap.size + 1, 2, none⟩), .pointer (some ⟨w.heap.size + 1, 3, none⟩)]) (O Y 2)).run Tryz.prog w' = .ok (.pointer (some ⟨w.heap.size + 1, 2, none⟩)) w' := fun w' => idxQ (w.heap.size + 1) 2 w' (by omega); have i3 : ∀ w', (Instr.index 212 (.agg #[.pointer (some ⟨w.heap.size + 1, 0, none⟩), .pointer (some ⟨w.heap.size + 1, 1, none⟩), .pointer (some ⟨w.heap.size + 1, 2, none⟩), .pointer (some ⟨w.heap.size + 1, 3, none⟩)]) (O Y 3)).run Tryz.prog w' = .ok (.pointer (some ⟨w.heap.size + 1, 3, none⟩)) w' := fun w' => idxQ (w.heap.size + 1) 3 w' (by omega); go_loopw [11] (fun vi wr => TkRel w g s at_ t vi wr) (fun vi _ => 4 - (intOf vi).toNat); case atStart => exact ⟨0, by omega, rfl, hr0.out, q0.out, q1.out, qB.out⟩
 case round =>
  obtain ⟨k, hk, rfl, hrd, g0, g1, gK⟩ := hrel; replace hrd := ZZ hrd; replace g0 := ZZ g0; replace g1 := ZZ g1; replace gK := ZZ gK; rcases (by omega : k = 0 ∨ k = 1 ∨ k = 2 ∨ k = 3 ∨ k = 4) with rfl | rfl | rfl | rfl | rfl
  · have hN := hN0.out wr hrd.out; have x1 : wr.cell? ⟨w.heap.size + 1, 0, none⟩ = some (O Y 0) := (blk_cell g1.out 0).trans rfl; replace hN := ZZ hN; go_wp2_with fail; refine hN.out.mono ?_; rintro e w2 ⟨rfl, hr2, hk2⟩; have y1 := blk_keeps g1.out hk2 (by simp; have := hgl.out; omega); have y0 := blk_keeps g0.out hk2 (by simp; have := hgl.out; omega); have z1 : w2.cell? ⟨w.heap.size + 1, 0, none⟩ = some (O Y 0) := (blk_cell y1 0).trans rfl; have z2 := blk_frozen y1 0; have hkk := ZZ (gK.out.trans hk2); replace y1 := ZZ y1; replace y0 := ZZ y0; replace hr2 := ZZ hr2; clear hk2; go_wp2_with fail; refine ⟨⟨1, by omega, rfl, ?_, ?_, ?_, ?_⟩, by simp [intOf]⟩
    · exact (BH _ _ _ _ (by show ¬ g = w.heap.size + 1; have := hgl.out; omega)).trans hr2.out
    · exact (BH _ _ _ _ (by show ¬ w.heap.size = w.heap.size + 1; omega)).trans y0.out
    · exact blk_set y1.out 0 _
    · exact Keeps.setCell hkk.out _ _ _ (.inr (by omega))
  · have hN := hN1.out wr hrd.out; have x1 : wr.cell? ⟨w.heap.size + 1, 1, none⟩ = some (O Y 0) := (blk_cell g1.out 1).trans rfl; replace hN := ZZ hN; go_wp2_with fail; refine hN.out.mono ?_; rintro e w2 ⟨rfl, hr2, hk2⟩; have y1 := blk_keeps g1.out hk2 (by simp; have := hgl.out; omega); have y0 := blk_keeps g0.out hk2 (by simp; have := hgl.out; omega); have z1 : w2.cell? ⟨w.heap.size + 1, 1, none⟩ = some (O Y 0) := (blk_cell y1 1).trans rfl; have z2 := blk_frozen y1 1; have hkk := ZZ (gK.out.trans hk2); replace y1 := ZZ y1; replace y0 := ZZ y0; replace hr2 := ZZ hr2; clear hk2; go_wp2_with fail; refine ⟨⟨2, by omega, rfl, ?_, ?_, ?_, ?_⟩, by simp [intOf]⟩
    · exact (BH _ _ _ _ (by show ¬ g = w.heap.size + 1; have := hgl.out; omega)).trans hr2.out
    · exact (BH _ _ _ _ (by show ¬ w.heap.size = w.heap.size + 1; omega)).trans y0.out
    · exact blk_set y1.out 1 _
    · exact Keeps.setCell hkk.out _ _ _ (.inr (by omega))
  · have hN := hN2.out wr hrd.out; have x1 : wr.cell? ⟨w.heap.size + 1, 2, none⟩ = some (O Y 0) := (blk_cell g1.out 2).trans rfl; replace hN := ZZ hN; go_wp2_with fail; refine hN.out.mono ?_; rintro e w2 ⟨rfl, hr2, hk2⟩; have y1 := blk_keeps g1.out hk2 (by simp; have := hgl.out; omega); have y0 := blk_keeps g0.out hk2 (by simp; have := hgl.out; omega); have z1 : w2.cell? ⟨w.heap.size + 1, 2, none⟩ = some (O Y 0) := (blk_cell y1 2).trans rfl; have z2 := blk_frozen y1 2; have hkk := ZZ (gK.out.trans hk2); replace y1 := ZZ y1; replace y0 := ZZ y0; replace hr2 := ZZ hr2; clear hk2; go_wp2_with fail; refine ⟨⟨3, by omega, rfl, ?_, ?_, ?_, ?_⟩, by simp [intOf]⟩
    · exact (BH _ _ _ _ (by show ¬ g = w.heap.size + 1; have := hgl.out; omega)).trans hr2.out
    · exact (BH _ _ _ _ (by show ¬ w.heap.size = w.heap.size + 1; omega)).trans y0.out
    · exact blk_set y1.out 2 _
    · exact Keeps.setCell hkk.out _ _ _ (.inr (by omega))
  · have hN := hN3.out wr hrd.out; have x1 : wr.cell? ⟨w.heap.size + 1, 3, none⟩ = some (O Y 0) := (blk_cell g1.out 3).trans rfl; replace hN := ZZ hN; go_wp2_with fail; refine hN.out.mono ?_; rintro e w2 ⟨rfl, hr2, hk2⟩; have y1 := blk_keeps g1.out hk2 (by simp; have := hgl.out; omega); have y0 := blk_keeps g0.out hk2 (by simp; have := hgl.out; omega); have z1 : w2.cell? ⟨w.heap.size + 1, 3, none⟩ = some (O Y 0) := (blk_cell y1 3).trans rfl; have z2 := blk_frozen y1 3; have hkk := ZZ (gK.out.trans hk2); replace y1 := ZZ y1; replace y0 := ZZ y0; replace hr2 := ZZ hr2; clear hk2; go_wp2_with fail; refine ⟨⟨4, by omega, rfl, ?_, ?_, ?_, ?_⟩, by simp [intOf]⟩
    · exact (BH _ _ _ _ (by show ¬ g = w.heap.size + 1; have := hgl.out; omega)).trans hr2.out
    · exact (BH _ _ _ _ (by show ¬ w.heap.size = w.heap.size + 1; omega)).trans y0.out
    · exact blk_set y1.out 3 _
    · exact Keeps.setCell hkk.out _ _ _ (.inr (by omega))
  · have hA := hL1.out wr hrd.out; replace hA := ZZ hA; go_wp2_with fail; refine hA.out.out.mono ?_; rintro e w2 ⟨vb, rfl, hb2, hr2, hk2⟩; obtain ⟨Ab, cb, rfl, -⟩ := LRow.slice hb2; have hB := ZZ (hL2.out w2 hr2); go_wp2_with fail; refine hB.out.out.mono ?_; rintro e w3 ⟨vo, rfl, ho3, hr3, hk3⟩; obtain ⟨Ao, co, rfl, -⟩ := LRow.slice ho3; have hD := ZZ (hC.out w3 hr3); have sz2 := hk2.size; have sz3 := hk3.size; have hgw := hgl.out; have y1 := blk_keeps (blk_keeps g1.out hk2 (by simp; omega)) hk3 (by simp; omega); have y0 := blk_keeps (blk_keeps g0.out hk2 (by simp; omega)) hk3 (by simp; omega); have hb3 := LRow.keeps hb2 hk3 (by simp; exact hrd.out.lt); have hkk := ZZ ((gK.out.trans hk2).trans hk3); have ho3' := ho3; have z4 : w3.cell? ⟨w.heap.size + 1, 4, none⟩ = some (.slice none 0 0) := (blk_cell y1 4).trans rfl; have z5 : w3.cell? ⟨w.heap.size + 1, 5, none⟩ = some (.slice none 0 0) := (blk_cell y1 5).trans rfl; have f4 := blk_frozen y1 4; have f5 := blk_frozen y1 5; obtain ⟨W4, hW4⟩ : ∃ W4, (w3.setCell ⟨w.heap.size + 1, 4, none⟩ (.slice Ab t.blocks.length cb)).setCell ⟨w.heap.size + 1, 5, none⟩ (.slice Ao t.outs.length co) = W4 := ⟨_, rfl⟩
    have m1 : W4.heap[w.heap.size + 1]? = some (.cells #[O Y t.prio, O Y t.period, O Y t.deadline, O Y t.jitter, (.slice Ab t.blocks.length cb), (.slice Ao t.outs.length co), .slice none 0 0] 45 (0, 0)) := by rw [← hW4]; exact blk_set (blk_set y1 4 _) 5 _
    have k34 : Keeps [w.heap.size + 1] w3 W4 := by rw [← hW4]; exact Keeps.set2 _ _ _ _ _ _
    have m0 : W4.heap[w.heap.size]? = _ := blk_keeps y0 k34 (by simp); have hr4 : RdAt W4 g s _ := blk_keeps hr3 k34 (by simp; omega); have hb4 := LRow.keeps hb3 k34 (by simp; have := gK.out.size; have := (ltA g1.out); omega); have ho4 := LRow.keeps ho3 k34 (by simp; have := (ltA g1.out); omega); have hk4 := hkk.out.trans' k34 (by simp); have s34 := k34.size; replace hD := ZZ (hC.out W4 hr4); replace m1 := ZZ m1; replace m0 := ZZ m0; replace hb4 := ZZ hb4; replace ho4 := ZZ ho4; replace hk4 := ZZ hk4; replace hr4 := ZZ hr4; have hgr := hrd.out.lt; clear y1 y0 hb3 hb2 ho3 ho3' hkk hk2 hk3 k34 hr2 hr3 hA hB; go_wp2_with fail; clear hW4 z4 z5 f4 f5; refine hD.out.out.mono ?_; rintro e w5 ⟨vc, rfl, hc5, hr5, hk5⟩; obtain ⟨Ac, cc, rfl, -⟩ := LRow.slice hc5; have gw4 := (ltA m1.out); have y1 := blk_keeps m1.out hk5 (by simp; omega); have y0 := blk_keeps m0.out hk5 (by simp; omega); have x0 : w5.cell? ⟨w.heap.size + 1, 0, none⟩ = some (O Y t.prio) := (blk_cell y1 0).trans rfl; have x1 : w5.cell? ⟨w.heap.size + 1, 1, none⟩ = some (O Y t.period) := (blk_cell y1 1).trans rfl; have x2 : w5.cell? ⟨w.heap.size + 1, 2, none⟩ = some (O Y t.deadline) := (blk_cell y1 2).trans rfl; have x3 : w5.cell? ⟨w.heap.size + 1, 3, none⟩ = some (O Y t.jitter) := (blk_cell y1 3).trans rfl; have x4 : w5.cell? ⟨w.heap.size + 1, 4, none⟩ = some (.slice Ab t.blocks.length cb) := (blk_cell y1 4).trans rfl; have x5 : w5.cell? ⟨w.heap.size + 1, 5, none⟩ = some (.slice Ao t.outs.length co) := (blk_cell y1 5).trans rfl; have x6 : w5.cell? ⟨w.heap.size + 1, 6, none⟩ = some (.slice none 0 0) := (blk_cell y1 6).trans rfl; have r0 : w5.cell? ⟨w.heap.size, 0, none⟩ = some (O Y 0) := (blk_cell y0 0).trans rfl; have fr0 := blk_frozen y0 0; have r1 : w5.cell? ⟨w.heap.size, 1, none⟩ = some (O Y 0) := (blk_cell y0 1).trans rfl; have fr1 := blk_frozen y0 1; have r2 : w5.cell? ⟨w.heap.size, 2, none⟩ = some (O Y 0) := (blk_cell y0 2).trans rfl; have fr2 := blk_frozen y0 2; have r3 : w5.cell? ⟨w.heap.size, 3, none⟩ = some (O Y 0) := (blk_cell y0 3).trans rfl; have fr3 := blk_frozen y0 3; have r4 : w5.cell? ⟨w.heap.size, 4, none⟩ = some (.slice none 0 0) := (blk_cell y0 4).trans rfl; have fr4 := blk_frozen y0 4; have r5 : w5.cell? ⟨w.heap.size, 5, none⟩ = some (.slice none 0 0) := (blk_cell y0 5).trans rfl; have fr5 := blk_frozen y0 5; have r6 : w5.cell? ⟨w.heap.size, 6, none⟩ = some (.slice none 0 0) := (blk_cell y0 6).trans rfl; have fr6 := blk_frozen y0 6; have f6 := blk_frozen y1 6; have hb5 := LRow.keeps hb4.out hk5 (by simp; exact hrd.out.lt); have ho5 := LRow.keeps ho4.out hk5 (by simp; omega); have hkk := ZZ (hk4.out.trans hk5); replace y1 := ZZ y1; replace y0 := ZZ y0; replace hb5 := ZZ hb5; replace ho5 := ZZ ho5; replace hc5 := ZZ hc5; replace hr5 := ZZ hr5; clear hk5 hb4 ho4 m1 m0 hr4 hk4 hD; have kE : Keeps [w.heap.size, w.heap.size + 1] w5 ((((((((w5.setCell ⟨w.heap.size + 1, 6, none⟩ (.slice Ac t.code.length cc)).setCell ⟨w.heap.size, 0, none⟩ (O Y t.prio)).setCell ⟨w.heap.size, 1, none⟩ (O Y t.period)).setCell ⟨w.heap.size, 2, none⟩ (O Y t.deadline)).setCell ⟨w.heap.size, 3, none⟩ (O Y t.jitter)).setCell ⟨w.heap.size, 4, none⟩ (.slice Ab t.blocks.length cb)).setCell ⟨w.heap.size, 5, none⟩ (.slice Ao t.outs.length co)).setCell ⟨w.heap.size, 6, none⟩ (.slice Ac t.code.length cc)) := (Keeps.setCell ((Keeps.setCell ((Keeps.setCell ((Keeps.setCell ((Keeps.setCell ((Keeps.setCell ((Keeps.setCell ((Keeps.setCell (Keeps.refl [w.heap.size, w.heap.size + 1] w5) (w.heap.size + 1) 6 (.slice Ac t.code.length cc) (.inl (by simp)))) (w.heap.size) 0 (O Y t.prio) (.inl (by simp)))) (w.heap.size) 1 (O Y t.period) (.inl (by simp)))) (w.heap.size) 2 (O Y t.deadline) (.inl (by simp)))) (w.heap.size) 3 (O Y t.jitter) (.inl (by simp)))) (w.heap.size) 4 (.slice Ab t.blocks.length cb) (.inl (by simp)))) (w.heap.size) 5 (.slice Ao t.outs.length co) (.inl (by simp)))) (w.heap.size) 6 (.slice Ac t.code.length cc) (.inl (by simp)))
    have hE : ((((((((w5.setCell ⟨w.heap.size + 1, 6, none⟩ (.slice Ac t.code.length cc)).setCell ⟨w.heap.size, 0, none⟩ (O Y t.prio)).setCell ⟨w.heap.size, 1, none⟩ (O Y t.period)).setCell ⟨w.heap.size, 2, none⟩ (O Y t.deadline)).setCell ⟨w.heap.size, 3, none⟩ (O Y t.jitter)).setCell ⟨w.heap.size, 4, none⟩ (.slice Ab t.blocks.length cb)).setCell ⟨w.heap.size, 5, none⟩ (.slice Ao t.outs.length co)).setCell ⟨w.heap.size, 6, none⟩ (.slice Ac t.code.length cc)).heap[w.heap.size]? = some (.cells #[O Y t.prio, O Y t.period, O Y t.deadline, O Y t.jitter, .slice Ab t.blocks.length cb, .slice Ao t.outs.length co, .slice Ac t.code.length cc] 45 (0, 0)) := (blk_set (blk_set (blk_set (blk_set (blk_set (blk_set (blk_set ((BH _ _ _ _ (by show ¬ w.heap.size = w.heap.size + 1; omega)).trans y0.out) 0 _) 1 _) 2 _) 3 _) 4 _) 5 _) 6 _)
    have gwr := (ltA g1.out); have hb6 := LRow.keeps hb5.out kE (by simp; omega); have ho6 := LRow.keeps ho5.out kE (by simp; omega); have hc6 := LRow.keeps hc5.out kE (by simp; omega); have hr6 : RdAt _ g s _ := blk_keeps hr5.out kE (by simp; have := hgl.out; omega); have hk6 := hkk.out.trans' kE (by simp); rw [← hT.out] at hr6; have hR := ZZ (And.intro (LRow.mono hb6 (by omega : w.heap.size ≤ _)) (And.intro (LRow.mono ho6 (by omega : w.heap.size ≤ _)) (And.intro (LRow.mono hc6 (by omega : w.heap.size ≤ _)) (And.intro hr6 hk6)))); replace hE := ZZ hE; clear hb6 ho6 hc6 hr6 hk6 kE hb5 ho5 hc5 hr5 hkk; go_wp2_with fail; refine bodyPost_ret (results_cell_row rfl _ _ w.heap.size 45 _ (0, 0) _ rfl hE.out Tryz.underlying45 rfl (by kernel_rfl)) rfl ?_; exact ⟨_, _, _, rfl, hR.out⟩
section
def catF {α : Type} (f : α → ByteArray) (s : ByteArray) (l : List α) : ByteArray := l.foldl (fun s x => s ++ f x) s
theorem catF_pre {α : Type} (f : α → ByteArray) (s : ByteArray) (l : List α) : catF f s l = s ++ catF f BE l := by
 suffices H : ∀ (l : List α) (a b : ByteArray), catF f (a ++ b) l = a ++ catF f b l by simpa using H l s BE
 intro l; induction l with
 | nil => intro a b; rfl
 | cons x l ih => intro a b; show catF f (a ++ b ++ f x) l = a ++ catF f (b ++ f x) l; rw [ByteArray.append_assoc, ih]
theorem catF_snoc {α : Type} (f : α → ByteArray) (s : ByteArray) (l : List α) (x : α) : catF f s (l ++ [x]) = catF f s l ++ f x := by unfold catF; rw [List.foldl_append]; rfl
theorem catF_two {α : Type} (f : α → ByteArray) (s : ByteArray) (a b : List α) : catF f s (a ++ b) = catF f s a ++ catF f BE b := by
 rw [← catF_pre]; unfold catF; rw [List.foldl_append]
theorem Sub.many {α : Type} {f : α → ByteArray} {s : ByteArray} {k : Nat} {s0 : ByteArray} {l : List α} (h : Sub s k (catF f s0 l)) (j : Nat) (x : α) (hx : l[j]? = some x) : Sub s (k + (catF f s0 (l.take j)).size) (f x) ∧ k + (catF f s0 (l.take (j + 1))).size = k + (catF f s0 (l.take j)).size + (f x).size := by
 have e1 : l = l.take j ++ ([x] ++ l.drop (j + 1)) := by
  conv => lhs; rw [← List.take_append_drop j l, drop_consT l j x hx]
  rfl
 constructor
 · rw [e1, catF_two] at h; have h2 := h.right; rw [catF_two] at h2; have h3 := h2.left; have h4 : catF f BE [x] = f x := by show BE ++ f x = f x; simp
   rwa [h4] at h3
 · rw [take_next l j x hx, catF_snoc, ByteArray.size_append]; omega
def sigS : ByteArray := ⟨#[80, 76, 67, 49]⟩
def numS (im : ImageD) : List Int := [im.sw, im.la, im.co, im.inp]
def imgS (im : ImageD) : ByteArray := sigS ++ catS BE (numS im) ++ listS im.safe ++ putS im.blocks.length ++ catF listS BE im.blocks ++ putS im.tasks.length ++ catF taskS BE im.tasks
theorem LRow.other {w w1 : World} {B B' e e' size size' n n' : Nat} {v v' : Value} {xs xs' : List Value} (h : LRow w B e size v n xs) (h' : LRow w B' e' size' v' n' xs') (he : e ≠ e') (hg : w.grownBy w1 v'.ownBlock) : LRow w1 B e size v n xs :=
 h.move (fun k hk => hg.block k (LRow.lt h k hk).1 (fun hr => by
  obtain ⟨_, _, c1, h1⟩ := LRow.lt h k hk; obtain ⟨_, _, c2, h2⟩ := LRow.lt h' k hr.symm; rw [h1] at h2; injection h2 with h2
  injection h2 with _ h2 _
  exact he h2))
def BlkRow (W : World) (B : Nat) (v : Value) (L : List (List Int)) : Prop := ∃ us : List Value, LRow W B 22 1 v L.length us ∧ ∀ (j : Nat) l, L[j]? = some l → ∃ u, us[j]? = some u ∧ u.oneCell' = true ∧ LRow W B 3 1 u l.length (l.map (O Y))
def taskC (t : TaskD) (vb vo vc : Value) : List Value := [O Y t.prio, O Y t.period, O Y t.deadline, O Y t.jitter, vb, vo, vc]
def TaskRow (W : World) (B : Nat) (v : Value) (L : List TaskD) : Prop := ∃ us : List (Value × Value × Value), us.length = L.length ∧ LRow W B 45 7 v L.length ((L.zip us).flatMap (fun x => taskC x.1 x.2.1 x.2.2.1 x.2.2.2)) ∧ ∀ (j : Nat) t u, L[j]? = some t → us[j]? = some u → LRow W B 3 1 u.1 t.blocks.length (t.blocks.map (O Y)) ∧ LRow W B 3 1 u.2.1 t.outs.length (t.outs.map (O Y)) ∧ LRow W B 127 3 u.2.2 t.code.length (t.code.flatMap I3.enc)
theorem slice_one (A : Option Addr) (n c : Nat) : (Value.slice A n c).oneCell' = true := by simp [Value.oneCell']
theorem LRow.one {w : World} {B e size n : Nat} {v : Value} {xs : List Value} (h : LRow w B e size v n xs) : v.oneCell' = true := by
 obtain ⟨A, c, rfl, _⟩ := LRow.slice h; exact slice_one _ _ _
theorem BlkRow.keeps {w w1 : World} {B : Nat} {v : Value} {L : List (List Int)} {S : List Nat} (h : BlkRow w B v L) (hk : Keeps S w w1) (hS : ∀ k ∈ S, k < B) : BlkRow w1 B v L := by
 obtain ⟨us, h1, h2⟩ := h; exact ⟨us, LRow.keeps h1 hk hS, fun j l hj => by obtain ⟨u, h3, h4, h5⟩ := h2 j l hj; exact ⟨u, h3, h4, LRow.keeps h5 hk hS⟩⟩
theorem TaskRow.keeps {w w1 : World} {B : Nat} {v : Value} {L : List TaskD} {S : List Nat} (h : TaskRow w B v L) (hk : Keeps S w w1) (hS : ∀ k ∈ S, k < B) : TaskRow w1 B v L := by
 obtain ⟨us, h0, h1, h2⟩ := h; exact ⟨us, h0, LRow.keeps h1 hk hS, fun j t u hj hu => by obtain ⟨h3, h4, h5⟩ := h2 j t u hj hu; exact ⟨LRow.keeps h3 hk hS, LRow.keeps h4 hk hS, LRow.keeps h5 hk hS⟩⟩
theorem BlkRow.via {w w1 : World} {B : Nat} {v : Value} {L : List (List Int)} (h : BlkRow w B v L) (hm : ∀ e size n v xs, e ≠ 45 → LRow w B e size v n xs → LRow w1 B e size v n xs) : BlkRow w1 B v L := by
 obtain ⟨us, h1, h2⟩ := h; exact ⟨us, hm _ _ _ _ _ (by decide) h1, fun j l hj => by obtain ⟨u, h3, h4, h5⟩ := h2 j l hj; exact ⟨u, h3, h4, hm _ _ _ _ _ (by decide) h5⟩⟩
theorem BlkRow.rows {w : World} {B : Nat} {v : Value} {L : List (List Int)} (h : BlkRow w B v L) (hn : L.length ≤ 1000) (hL : ∀ l ∈ L, l.length ≤ 1000) : RowsAt w v L := by
 obtain ⟨us, h1, h2⟩ := h; obtain ⟨A, c, rfl, hc⟩ := LRow.slice h1; refine ⟨A, c, rfl, hc, fun j l hj => ?_⟩; obtain ⟨u, h3, h4, h5⟩ := h2 j l hj; obtain ⟨A', c', e, _, _, h6⟩ := LRow.rowAt h1 (by omega); injection e with e1 e2 e3
 subst e1; obtain ⟨ad, h7, h8⟩ := h6 j u h3; exact ⟨ad, u, h7, h8, LRow.rowAt h5 (by have := hL l (LM hj); omega)⟩
theorem task_get : ∀ (L : List TaskD) (us : List (Value × Value × Value)), us.length = L.length → ∀ (j : Nat) (t : TaskD) (u : Value × Value × Value), L[j]? = some t → us[j]? = some u → ∀ i, i < 7 → ((L.zip us).flatMap (fun x => taskC x.1 x.2.1 x.2.2.1 x.2.2.2))[j * 7 + i]? = (taskC t u.1 u.2.1 u.2.2)[i]? := by
 intro L; induction L with
 | nil => intro us _ j t u hj; simp at hj
 | cons t0 L ih =>
  intro us hl j t u hj hu i hi; cases us with
  | nil => simp at hl
  | cons u0 us =>
   cases j with
   | zero =>
    simp at hj hu; subst hj; subst hu; simp only [List.zip_cons_cons, List.flatMap_cons, Nat.zero_mul, Nat.zero_add]; rw [List.getElem?_append_left (by simp [taskC]; omega)]
   | succ j =>
    simp only [List.zip_cons_cons, List.flatMap_cons]; rw [List.getElem?_append_right (by simp [taskC]; omega)]; have : (j + 1) * 7 + i - (taskC t0 u0.1 u0.2.1 u0.2.2).length = j * 7 + i := by simp [taskC]; omega
    rw [this]; exact ih us (by simpa using hl) j t u (by simpa using hj) (by simpa using hu) i hi
theorem TaskRow.tasks {w : World} {B : Nat} {v : Value} {L : List TaskD} (h : TaskRow w B v L) (hn : L.length ≤ 1000) (hL : ∀ t ∈ L, t.blocks.length ≤ 1000 ∧ t.outs.length ≤ 1000 ∧ t.code.length ≤ 1000) : TasksAt w v L := by
 obtain ⟨us, h0, h1, h2⟩ := h; obtain ⟨A, c, rfl, hc⟩ := LRow.slice h1; refine ⟨A, c, rfl, hc, fun j t hj => ?_⟩; obtain ⟨A', c', e, _, _, h6⟩ := LRow.rowAt h1 (by omega); injection e with e1 e2 e3
 subst e1; have hjl : j < L.length := (GI.1 hj).1; obtain ⟨u, hu⟩ : ∃ u, us[j]? = some u := ⟨_, GE (by omega)⟩
 have hg := task_get L us h0 j t u hj hu; obtain ⟨hb, ho, hcd⟩ := h2 j t u hj hu; obtain ⟨l1, l2, l3⟩ := hL t (LM hj); obtain ⟨ad, had, c0⟩ := h6 (j * 7) _ (hg 0 (by omega)); refine ⟨ad, had, u.1, u.2.1, u.2.2, c0, ?_, ?_, ?_, ?_, ?_, ?_, LRow.rowAt hb (by omega), LRow.rowAt ho (by omega), LRow.rowAt hcd (by omega)⟩
 · obtain ⟨ad', had', c1⟩ := h6 (j * 7 + 1) _ (hg 1 (by omega)); rw [had] at had'; injection had' with had'
   rw [← had', add_next] at c1; exact c1
 · obtain ⟨ad', had', c1⟩ := h6 (j * 7 + 2) _ (hg 2 (by omega)); rw [had] at had'; injection had' with had'
   rw [← had', add_next] at c1; exact c1
 · obtain ⟨ad', had', c1⟩ := h6 (j * 7 + 3) _ (hg 3 (by omega)); rw [had] at had'; injection had' with had'
   rw [← had', add_next] at c1; exact c1
 · obtain ⟨ad', had', c1⟩ := h6 (j * 7 + 4) _ (hg 4 (by omega)); rw [had] at had'; injection had' with had'
   rw [← had', add_next] at c1; exact c1
 · obtain ⟨ad', had', c1⟩ := h6 (j * 7 + 5) _ (hg 5 (by omega)); rw [had] at had'; injection had' with had'
   rw [← had', add_next] at c1; exact c1
 · obtain ⟨ad', had', c1⟩ := h6 (j * 7 + 6) _ (hg 6 (by omega)); rw [had] at had'; injection had' with had'
   rw [← had', add_next] at c1; exact c1
theorem info22T : (Tryz.prog.info? 22).map (fun i => (i.zero, i.size, i.bytes)) = some (some (.slice none 0 0), 1, 24) := by kernel_rfl
theorem info45T : (Tryz.prog.info? 45).map (fun i => (i.zero, i.size, i.bytes)) = some (some (.agg #[O Y 0, O Y 0, O Y 0, O Y 0, .slice none 0 0, .slice none 0 0, .slice none 0 0]), 7, 104) := by kernel_rfl
theorem alloc_keeps (W : World) (o : Obj) : Keeps [] W (W.alloc o) := Keeps.of_below ((BR _ _).alloc (NR _) _) []
theorem new_src (W : World) (cs : Array Value) (t : TypeId) (j : Nat) (u : Value) (h : cs.toList[j]? = some u) : (W.alloc (.cells cs t)).cell? ((⟨W.heap.size, 0, none⟩ : Addr).add j) = some u := by
 rw [add_plain]; exact (blk_cell (heap_alloc_last W (.cells cs t)) j).trans (by simpa using h)
section
variable {ops : Array Oper} {o : Oper} {a : Act} {Q : Exit → Act → World → Prop} {K : Act → World → Prop}
theorem step_blk {W : World} {B : Nat} (hw : Region.wanted o (yielded ops a.tmps) = true) (s x : Operand) (ho : o.op = .call { callee := .builtin .append, args := #[s, x], argTypes := #[23, 23] })
 (v : Value) (L : List (List Int)) (l : List Int) (u : Value) (hs : a.eval s = v) (hx : a.eval x = .slice (some ⟨W.heap.size, 0, none⟩) 1 1) (HB : BlkRow W B v L) (Hu : LRow W B 3 1 u l.length (l.map (O Y))) (hbase : B ≤ W.heap.size) (hn : L.length ≤ 1000)
 (h : ∀ v1 w1, BlkRow w1 B v1 (L ++ [l]) → Below B W w1 → (∀ e size n v xs, e ≠ 22 → LRow W B e size v n xs → LRow w1 B e size v n xs) → K (a.put o.dst v1) w1) :
 if Region.wanted o (yielded ops a.tmps) = true then Oper.wp Tryz.prog o a (W.alloc (.cells #[u] 22)) K Q else K (a.put o.dst undef) (W.alloc (.cells #[u] 22)) := by
 obtain ⟨us, h1, h2⟩ := HB; have hk := alloc_keeps W (.cells #[u] 22); have hul : us.length = L.length := by have := h1.1; omega
 have h1' := LRow.keeps h1 hk (by simp); refine step_append_loose (W.alloc (.cells #[u] 22)) B hw s x 23 22 (.slice none 0 0) 1 24 ho Tryz.underlying23 info22T rfl (by decide) (by decide) v L.length us [u] (some ⟨W.heap.size, 0, none⟩) 1 1 hs hx rfl (by simpa using LRow.one Hu) h1' (.inr ⟨_, rfl, fun j y hy => new_src W #[u] 22 j y hy⟩) (by simp; omega) (by omega) ?_; intro v1 w1 hrow hg hat
 refine h v1 w1 ⟨us ++ [u], by simpa using hrow, fun j l' hj => ?_⟩ ?_ (fun e size n v' xs he hr => LRow.other (LRow.keeps hr hk (by simp)) h1' he hg)
 · by_cases hjl : j < L.length
   · rw [List.getElem?_append_left hjl] at hj; obtain ⟨y, h3, h4, h5⟩ := h2 j l' hj; refine ⟨y, by rw [List.getElem?_append_left (by omega)]; exact h3, h4, LRow.other (LRow.keeps h5 hk (by simp)) h1' (by decide) hg⟩
   · rw [List.getElem?_append_right (by omega)] at hj; have hj0 : j = L.length := by
      rcases Nat.lt_or_ge (j - L.length) 1 with h3 | h3
      · omega
      · rw [List.getElem?_eq_none (by simpa using h3)] at hj; cases hj
     subst hj0; simp at hj; subst hj; refine ⟨u, by rw [List.getElem?_append_right (by omega), hul]; simp, LRow.one Hu, LRow.other (LRow.keeps Hu hk (by simp)) h1' (by decide) hg⟩
 · exact ((BR B W).alloc hbase _).grown hg (by simp; omega) (fun k hk => (LRow.lt h1' k hk).2.1)
theorem step_task {W : World} {B : Nat} (hw : Region.wanted o (yielded ops a.tmps) = true) (s x : Operand) (ho : o.op = .call { callee := .builtin .append, args := #[s, x], argTypes := #[24, 24] })
 (v : Value) (L : List TaskD) (t : TaskD) (vb vo vc : Value) (hs : a.eval s = v) (hx : a.eval x = .slice (some ⟨W.heap.size, 0, none⟩) 1 1) (HB : TaskRow W B v L) (Hb : LRow W B 3 1 vb t.blocks.length (t.blocks.map (O Y))) (Ho : LRow W B 3 1 vo t.outs.length (t.outs.map (O Y))) (Hc : LRow W B 127 3 vc t.code.length (t.code.flatMap I3.enc)) (hbase : B ≤ W.heap.size) (hn : L.length ≤ 1000)
 (h : ∀ v1 w1, TaskRow w1 B v1 (L ++ [t]) → Below B W w1 → (∀ e size n v xs, e ≠ 45 → LRow W B e size v n xs → LRow w1 B e size v n xs) → K (a.put o.dst v1) w1) :
 if Region.wanted o (yielded ops a.tmps) = true then Oper.wp Tryz.prog o a (W.alloc (.cells (taskC t vb vo vc).toArray 45)) K Q else K (a.put o.dst undef) (W.alloc (.cells (taskC t vb vo vc).toArray 45)) := by
 obtain ⟨us, h0, h1, h2⟩ := HB; have hk := alloc_keeps W (.cells (taskC t vb vo vc).toArray 45); have h1' := LRow.keeps h1 hk (by simp); refine step_append_loose (W.alloc (.cells (taskC t vb vo vc).toArray 45)) B hw s x 24 45 _ 7 104 ho Tryz.underlying24 info45T rfl (by decide) (by decide) v L.length _ (taskC t vb vo vc) (some ⟨W.heap.size, 0, none⟩) 1 1 hs hx rfl ?_ h1' (.inr ⟨_, rfl, fun j y hy => new_src W (taskC t vb vo vc).toArray 45 j y (by simpa using hy)⟩) (by simp; omega) (by omega) ?_
 · intro y hy; simp only [taskC, List.mem_cons, List.not_mem_nil, or_false] at hy; rcases hy with rfl | rfl | rfl | rfl | rfl | rfl | rfl
   · rfl
   · rfl
   · rfl
   · rfl
   · exact LRow.one Hb
   · exact LRow.one Ho
   · exact LRow.one Hc
 intro v1 w1 hrow hg hat
 refine h v1 w1 ⟨us ++ [(vb, vo, vc)], by simp [h0], ?_, fun j t' y hj hy => ?_⟩ ?_ (fun e size n v' xs he hr => LRow.other (LRow.keeps hr hk (by simp)) h1' he hg)
 · rw [List.zip_append h0.symm, List.flatMap_append]; simpa using hrow
 · by_cases hjl : j < L.length
   · rw [List.getElem?_append_left hjl] at hj; rw [List.getElem?_append_left (by omega)] at hy; obtain ⟨h3, h4, h5⟩ := h2 j t' y hj hy; exact ⟨LRow.other (LRow.keeps h3 hk (by simp)) h1' (by decide) hg, LRow.other (LRow.keeps h4 hk (by simp)) h1' (by decide) hg, LRow.other (LRow.keeps h5 hk (by simp)) h1' (by decide) hg⟩
   · rw [List.getElem?_append_right (by omega)] at hj; rw [List.getElem?_append_right (by omega)] at hy; have hj0 : j = L.length := by
      rcases Nat.lt_or_ge (j - L.length) 1 with h3 | h3
      · omega
      · rw [List.getElem?_eq_none (by simpa using h3)] at hj; cases hj
     subst hj0; rw [h0] at hy; simp at hj hy; subst hj; subst hy; exact ⟨LRow.other (LRow.keeps Hb hk (by simp)) h1' (by decide) hg, LRow.other (LRow.keeps Ho hk (by simp)) h1' (by decide) hg, LRow.other (LRow.keeps Hc hk (by simp)) h1' (by decide) hg⟩
 · exact ((BR B W).alloc hbase _).grown hg (by simp; omega) (fun k hk => (LRow.lt h1' k hk).2.1)
end
open Go.Proofs.YtoopeamoejmjeaaGreat.CrcPlain in
theorem nats_append (a b : ByteArray) : nats (a ++ b) = nats a ++ nats b := by simp [nats, ByteArray.data_append]
theorem Sub.extract' (a b : ByteArray) : (a ++ b).extract 0 (a.size + 2 - 2) = a := by
 have h := (Sub.all BE a b).extract; rw [show BE ++ a ++ b = a ++ b by simp, show BE.size = 0 from rfl, Nat.zero_add] at h; exact h
open Go.Proofs.YtoopeamoejmjeaaGreat.CrcPlain in
theorem open_seal_eq (s : ByteArray) : openS (sealS s) = (s, 0) := by
 obtain ⟨n, h1, h2⟩ := crcOn_bd 0 s; have h3 : n = on 0 (nats s) := by
  have : crcOn 0 s = ((on 0 (nats s) : Nat) : Int) := rfl; omega
 have hsz : (sealS s).size = s.size + 2 := by unfold sealS; rw [ByteArray.size_append, strOfNums_size]; rfl
 have hN : nats (strOfNums [crcOn 0 s / 256, crcOn 0 s % 256]) = [n / 256, n % 256] := by
  rw [h1]; simp [nats, strOfNums]; omega
 have h0 : crcOn 0 (sealS s) = 0 := by
  have h4 : crcOn 0 (sealS s) = ((on 0 (nats (sealS s)) : Nat) : Int) := rfl; rw [h4]; unfold sealS; rw [nats_append, hN, on_append, ← h3, (on_two_zero h2 (by omega) (by omega)).2 (by omega)]; rfl
 unfold openS; rw [if_neg (by omega), if_pos h0, hsz]; have : (sealS s).extract 0 (s.size + 2 - 2) = s := by
  unfold sealS; exact Sub.extract' s _
 rw [this]
theorem open_seal (s : ByteArray) (w : World) (hs : s.size ≤ 500000000) : Calls Tryz.prog 95 #[.string (sealS s)] w fun e w' => e = .returned (.tuple #[.string s, O Y 0]) ∧ Below w.heap.size w w' := by
 have h := open_any (sealS s) w (by unfold sealS; rw [ByteArray.size_append, strOfNums_size]; simp; omega); rwa [open_seal_eq] at h
end
structure DSt (w W : World) (g : Nat) (s : ByteArray) (at_ : Nat) (cs : Array Value) : Prop where
 rd : RdAt W g s at_
 im : W.heap[g + 1]? = some (.cells cs 26 (0, 0))
 res : W.heap[w.heap.size]? = some (.cells #[O Y 0, O Y 0, O Y 0, O Y 0, .slice none 0 0, .slice none 0 0, .slice none 0 0] 26 (0, 0))
 lo : w.heap.size < g
 bel : Below w.heap.size w W
theorem DSt.keeps {w W W' : World} {g : Nat} {s : ByteArray} {at_ at' : Nat} {cs : Array Value} (h : DSt w W g s at_ cs) (hk : Keeps [g] W W') (hr : RdAt W' g s at') : DSt w W' g s at' cs :=
 ⟨hr, blk_keeps h.im hk (by simp), blk_keeps h.res hk (by simp; have := h.lo; omega), h.lo, h.bel.trans ⟨hk.os, hk.tape, hk.output, hk.size, fun k hb => hk.block k (by have := h.bel.size; omega) (by simp; have := h.lo; omega)⟩⟩
theorem DSt.step {w W W' : World} {g : Nat} {s : ByteArray} {at_ : Nat} {cs : Array Value} (h : DSt w W g s at_ cs) (hb : Below (g + 2) W W') : DSt w W' g s at_ cs :=
 ⟨(hb.block g (by omega)).trans h.rd, (hb.block (g + 1) (by omega)).trans h.im, (hb.block _ (by have := h.lo; omega)).trans h.res, h.lo, h.bel.trans (hb.mono (by have := h.lo; omega))⟩
theorem DSt.put {w W : World} {g : Nat} {s : ByteArray} {at_ : Nat} {cs : Array Value} (h : DSt w W g s at_ cs) (j : Nat) (v : Value) : DSt w (W.setCell ⟨g + 1, j, none⟩ v) g s at_ (cs.setIfInBounds j v) :=
 ⟨(BH _ _ _ _ (by show ¬ g = g + 1; omega)).trans h.rd, blk_set h.im j v, (BH _ _ _ _ (by show ¬ w.heap.size = g + 1; have := h.lo; omega)).trans h.res, h.lo, h.bel.setCell (by show w.heap.size ≤ g + 1; have := h.lo; omega) v⟩
theorem DSt.cell {w W : World} {g : Nat} {s : ByteArray} {at_ : Nat} {cs : Array Value} (h : DSt w W g s at_ cs) (j : Nat) (v : Value) (hv : cs[j]? = some v) : W.cell? ⟨g + 1, j, none⟩ = some v ∧ W.frozen? ⟨g + 1, j, none⟩ = false := ⟨(blk_cell h.im j).trans hv, blk_frozen h.im j⟩
def imC (k : Nat) (im : ImageD) (vs vb vt : Value) : Array Value := #[upTo k 0 im.sw, upTo k 1 im.la, upTo k 2 im.co, upTo k 3 im.inp, vs, vb, vt]
def L1Rel (w : World) (g : Nat) (s : ByteArray) (at_ : Nat) (im : ImageD) (vi : Value) (wr : World) : Prop := ∃ k : Nat, k ≤ 4 ∧ vi = O Y k ∧ DSt w wr g s (at_ + (catS BE ((numS im).take k)).size) (imC k im (.slice none 0 0) (.slice none 0 0) (.slice none 0 0))
structure ImOk (im : ImageD) : Prop where
 nums : Small (numS im)
 safe : Small im.safe
 sl : im.safe.length ≤ 16
 bl : im.blocks.length ≤ 8
 tl : im.tasks.length ≤ 8
 blocks : ∀ l ∈ im.blocks, Small l ∧ l.length ≤ 16
 tasks : ∀ t ∈ im.tasks, TaskOk t
theorem ImOk.num {im : ImageD} (h : ImOk im) (k : Nat) (hk : k < 4) : Sm ((numS im).getD k 0) := by
 have := h.nums ((numS im).getD k 0); rcases (by omega : k = 0 ∨ k = 1 ∨ k = 2 ∨ k = 3) with rfl | rfl | rfl | rfl <;> exact this (by simp [numS])
def L2Rel (w : World) (g : Nat) (s : ByteArray) (at_ : Nat) (im : ImageD) (vs vi : Value) (wr : World) : Prop := ∃ (k : Nat) (vb : Value), k ≤ im.blocks.length ∧ vi = O Y k ∧ DSt w wr g s (at_ + (catF listS BE (im.blocks.take k)).size) (imC 4 im vs vb (.slice none 0 0)) ∧ BlkRow wr (g + 2) vb (im.blocks.take k) ∧ LRow wr (g + 2) 3 1 vs im.safe.length (im.safe.map (O Y))
theorem BlkRow.slice {W : World} {B : Nat} {v : Value} {L : List (List Int)} (h : BlkRow W B v L) (k : Nat) (hk : L.length = k) : ∃ A c, v = .slice A k c := by
 obtain ⟨us, h1, _⟩ := h; obtain ⟨A, c, e, _⟩ := LRow.slice h1; exact ⟨A, c, by rw [e, hk]⟩
theorem TaskRow.slice {W : World} {B : Nat} {v : Value} {L : List TaskD} (h : TaskRow W B v L) (k : Nat) (hk : L.length = k) : ∃ A c, v = .slice A k c := by
 obtain ⟨us, _, h1, _⟩ := h; obtain ⟨A, c, e, _⟩ := LRow.slice h1; exact ⟨A, c, by rw [e, hk]⟩
theorem Keeps.bel_new {W W' : World} {n : Nat} (h : Keeps [n] W W') (hn : n ≤ W.heap.size) : Below n W W' := ⟨h.os, h.tape, h.output, h.size, fun k hk => h.block k (by omega) (by simp; omega)⟩
theorem fill7 {W : World} {b : Nat} {a0 a1 a2 a3 a4 a5 a6 : Value} (v0 v1 v2 v3 v4 v5 v6 : Value) (h : W.heap[b]? = some (.cells #[a0, a1, a2, a3, a4, a5, a6] 26 (0, 0))) : (((((((W.setCell ⟨b, 0, none⟩ v0).setCell ⟨b, 1, none⟩ v1).setCell ⟨b, 2, none⟩ v2).setCell ⟨b, 3, none⟩ v3).setCell ⟨b, 4, none⟩ v4).setCell ⟨b, 5, none⟩ v5).setCell ⟨b, 6, none⟩ v6).heap[b]? = some (.cells #[v0, v1, v2, v3, v4, v5, v6] 26 (0, 0)) ∧ Keeps [b] W (((((((W.setCell ⟨b, 0, none⟩ v0).setCell ⟨b, 1, none⟩ v1).setCell ⟨b, 2, none⟩ v2).setCell ⟨b, 3, none⟩ v3).setCell ⟨b, 4, none⟩ v4).setCell ⟨b, 5, none⟩ v5).setCell ⟨b, 6, none⟩ v6) := by
 have k0 := Keeps.setCell (Keeps.refl [b] W) b 0 v0 (.inl (by simp)); have k1 := Keeps.setCell k0 b 1 v1 (.inl (by simp)); have k2 := Keeps.setCell k1 b 2 v2 (.inl (by simp)); have k3 := Keeps.setCell k2 b 3 v3 (.inl (by simp)); have k4 := Keeps.setCell k3 b 4 v4 (.inl (by simp)); have k5 := Keeps.setCell k4 b 5 v5 (.inl (by simp)); have k6 := Keeps.setCell k5 b 6 v6 (.inl (by simp)); have h0 := blk_set h 0 v0; have h1 := blk_set h0 1 v1; have h2 := blk_set h1 2 v2; have h3 := blk_set h2 3 v3; have h4 := blk_set h3 4 v4; have h5 := blk_set h4 5 v5; have h6 := blk_set h5 6 v6; simp only [List.setIfInBounds_toArray, List.set_cons_zero, List.set_cons_succ] at h6; exact ⟨h6, k6⟩
def L3Rel (w : World) (g : Nat) (s : ByteArray) (at_ : Nat) (im : ImageD) (vs vb vi : Value) (wr : World) : Prop := ∃ (k : Nat) (vt : Value), k ≤ im.tasks.length ∧ vi = O Y k ∧ DSt w wr g s (at_ + (catF taskS BE (im.tasks.take k)).size) (imC 4 im vs vb vt) ∧ TaskRow wr (g + 2) vt (im.tasks.take k) ∧ BlkRow wr (g + 2) vb im.blocks ∧ LRow wr (g + 2) 3 1 vs im.safe.length (im.safe.map (O Y))
def OwnIm (W : World) (B : Nat) (v : Value) (im : ImageD) : Prop := ∃ vs vb vt, v = .agg #[O Y im.sw, O Y im.la, O Y im.co, O Y im.inp, vs, vb, vt] ∧ LRow W B 3 1 vs im.safe.length (im.safe.map (O Y)) ∧ BlkRow W B vb im.blocks ∧ TaskRow W B vt im.tasks
theorem OwnIm.image {W : World} {B : Nat} {v : Value} {im : ImageD} (h : OwnIm W B v im) (hi : ImOk im) : ImageAt W v im := by
 obtain ⟨vs, vb, vt, rfl, h1, h2, h3⟩ := h; exact ⟨_, _, _, rfl, LRow.rowAt h1 (by have := hi.sl; omega), h2.rows (by have := hi.bl; omega) (fun l hl => by have := (hi.blocks l hl).2; omega), h3.tasks (by have := hi.tl; omega) (fun t ht => by have h := hi.tasks t ht; have := h.bl; have := h.ol; have := h.cl; omega)⟩
theorem OwnIm.keeps {W W1 : World} {B : Nat} {v : Value} {im : ImageD} {S : List Nat} (h : OwnIm W B v im) (hk : Keeps S W W1) (hS : ∀ k ∈ S, k < B) : OwnIm W1 B v im := by
 obtain ⟨vs, vb, vt, rfl, h1, h2, h3⟩ := h; exact ⟨_, _, _, rfl, LRow.keeps h1 hk hS, h2.keeps hk hS, h3.keeps hk hS⟩
theorem imdec_any (im : ImageD) (hi : ImOk im) (hok : im.ok = true) (hsm : im.small) (hsz : (imgS im).size ≤ 500000000) (w : World) : Calls Tryz.prog 56 #[.string (sealS (imgS im))] w fun e w' => ∃ v, e = .returned (.tuple #[v, O Y 0]) ∧ (∃ B, w.heap.size < B ∧ OwnIm w' B v im) ∧ Below w.heap.size w w' := by
 obtain ⟨s, hsI⟩ : ∃ s, imgS im = s := ⟨_, rfl⟩
 have hO := fun w => ZZ (open_seal (imgS im) w hsz); have A6 : Sub s 0 (imgS im) := by rw [hsI]; exact ⟨by omega, fun i h h2 => by congr 1; omega⟩
 rw [hsI] at hsz hO ⊢; have hs : s.size ≤ 1000000000 := by omega
 have A5 : Sub s 0 _ := A6.left; have A4 : Sub s 0 _ := A5.left; have A3 : Sub s 0 _ := A4.left; have A2 : Sub s 0 _ := A3.left; have A1 : Sub s 0 _ := A2.left; obtain ⟨n2, e2⟩ : ∃ n, (sigS ++ catS BE (numS im)).size = n := ⟨_, rfl⟩
 obtain ⟨n3, e3⟩ : ∃ n, (sigS ++ catS BE (numS im) ++ listS im.safe).size = n := ⟨_, rfl⟩
 obtain ⟨n4, e4⟩ : ∃ n, (sigS ++ catS BE (numS im) ++ listS im.safe ++ putS im.blocks.length).size = n := ⟨_, rfl⟩
 obtain ⟨n5, e5⟩ : ∃ n, (sigS ++ catS BE (numS im) ++ listS im.safe ++ putS im.blocks.length ++ catF listS BE im.blocks).size = n := ⟨_, rfl⟩
 obtain ⟨n6, e6⟩ : ∃ n, (sigS ++ catS BE (numS im) ++ listS im.safe ++ putS im.blocks.length ++ catF listS BE im.blocks ++ putS im.tasks.length).size = n := ⟨_, rfl⟩
 have f2 : 4 + (catS BE (numS im)).size = n2 := by rw [← e2, ByteArray.size_append]; rfl
 have f3 : n2 + (listS im.safe).size = n3 := by rw [← e3, ByteArray.size_append, e2]
 have f4 : n3 + (putS im.blocks.length).size = n4 := by rw [← e4, ByteArray.size_append, e3]
 have f5 : n4 + (catF listS BE im.blocks).size = n5 := by rw [← e5, ByteArray.size_append, e4]
 have f6 : n5 + (putS im.tasks.length).size = n6 := by rw [← e6, ByteArray.size_append, e5]
 have f7 : n6 + (catF taskS BE im.tasks).size = s.size := by rw [← hsI]; unfold imgS; rw [ByteArray.size_append, e6]
 have B1 : Sub s 4 (catS BE (numS im)) := A1.right; have B2 := A2.right; have B3 := A3.right; have B4 := A4.right; have B5 := A5.right; have B6 := A6.right; rw [Nat.zero_add] at B2 B3 B4 B5 B6; rw [e2] at B2; rw [e3] at B3; rw [e4] at B4; rw [e5] at B5; rw [e6] at B6; have hN0 := fun g w hr => ZZ (num_any g s (4 + (catS BE ((numS im).take 0)).size) im.sw (hi.num 0 (by omega)) (Sub.take B1 0 im.sw rfl).1 w hr hs); rw [Nat.add_assoc, ← (Sub.take B1 0 im.sw rfl).2] at hN0; have hN1 := fun g w hr => ZZ (num_any g s (4 + (catS BE ((numS im).take 1)).size) im.la (hi.num 1 (by omega)) (Sub.take B1 1 im.la rfl).1 w hr hs); rw [Nat.add_assoc, ← (Sub.take B1 1 im.la rfl).2] at hN1; have hN2 := fun g w hr => ZZ (num_any g s (4 + (catS BE ((numS im).take 2)).size) im.co (hi.num 2 (by omega)) (Sub.take B1 2 im.co rfl).1 w hr hs); rw [Nat.add_assoc, ← (Sub.take B1 2 im.co rfl).2] at hN2; have hN3 := fun g w hr => ZZ (num_any g s (4 + (catS BE ((numS im).take 3)).size) im.inp (hi.num 3 (by omega)) (Sub.take B1 3 im.inp rfl).1 w hr hs); rw [Nat.add_assoc, ← (Sub.take B1 3 im.inp rfl).2] at hN3; have hS := fun g w hr => ZZ (list_rd g s n2 im.safe hi.safe hi.sl B2 w hr hs); rw [f3] at hS; have hM1 := fun g w hr => ZZ (many_any g s n3 im.blocks.length 8 w hr ⟨by omega, by have := hi.bl; omega⟩ (by omega) (by have := hi.bl; omega) B3 hs); rw [f4] at hM1; have hB : ∀ (k : Nat) (l : List Int), im.blocks[k]? = some l → ∀ g w, RdAt w g s (n4 + (catF listS BE (im.blocks.take k)).size) → Calls Tryz.prog 97 #[.pointer (some ⟨g, 0, none⟩)] w fun e w' => ∃ v, e = .returned v ∧ LRow w' w.heap.size 3 1 v l.length (l.map (O Y)) ∧ RdAt w' g s (n4 + (catF listS BE (im.blocks.take (k + 1))).size) ∧ Keeps [g] w w' := by
  intro k l hk g w hr; obtain ⟨h1, h2⟩ := Sub.many B4 k l hk; rw [h2]; obtain ⟨h3, h4⟩ := hi.blocks l (LM hk); exact list_rd g s _ l h3 h4 h1 w hr hs
 have hM2 := fun g w hr => ZZ (many_any g s n5 im.tasks.length 8 w hr ⟨by omega, by have := hi.tl; omega⟩ (by omega) (by have := hi.tl; omega) B5 hs); rw [f6] at hM2; have hT : ∀ (k : Nat) (t : TaskD), im.tasks[k]? = some t → ∀ g w, RdAt w g s (n6 + (catF taskS BE (im.tasks.take k)).size) → Calls Tryz.prog 99 #[.pointer (some ⟨g, 0, none⟩)] w fun e w' => ∃ vb vo vc, e = .returned (.agg #[O Y t.prio, O Y t.period, O Y t.deadline, O Y t.jitter, vb, vo, vc]) ∧ LRow w' w.heap.size 3 1 vb t.blocks.length (t.blocks.map (O Y)) ∧ LRow w' w.heap.size 3 1 vo t.outs.length (t.outs.map (O Y)) ∧ LRow w' w.heap.size 127 3 vc t.code.length (t.code.flatMap I3.enc) ∧ RdAt w' g s (n6 + (catF taskS BE (im.tasks.take (k + 1))).size) ∧ Keeps [g] w w' := by
  intro k t hk g w hr; obtain ⟨h1, h2⟩ := Sub.many B6 k t hk; rw [h2]; exact task_rd g s _ t (hi.tasks t (LM hk)) h1 w hr hs
 have hsx : s.extract 0 4 = ⟨#[80, 76, 67, 49]⟩ := (show Sub s 0 sigS from A1.left).extract; have hl4 : 4 ≤ s.size := by have := (show Sub s 0 sigS from A1.left).1; have h4 : sigS.size = 4 := rfl; omega
 have f5h := ZZ f5; have hfin := And.intro f7 (And.intro hok (And.intro hsm hi)); replace hO := ZZ hO; replace hN0 := ZZ hN0; replace hN1 := ZZ hN1; replace hN2 := ZZ hN2; replace hN3 := ZZ hN3; replace hS := ZZ hS; replace hM1 := ZZ hM1; replace hB := ZZ hB; replace hM2 := ZZ hM2; replace hT := ZZ hT; replace hfin := ZZ hfin; replace hs := ZZ hs; clear A1 A2 A3 A4 A5 A6 B1 B2 B3 B4 B5 B6 e2 e3 e4 e5 e6 f3 f4 f5 f6 f7 hok hsm hi hsI; replace f2 := ZZ f2; go_enter Tryz.func56, Tryz.ntmps56; go_wp2_with fail; refine (hO.out _).out.mono ?_; rintro e w1 ⟨rfl, hb1⟩; have d1 : decide ((s.size : Int) < 4) = false := decide_eq_false (by omega); have d2 : decide (s.size < 4) = false := decide_eq_false (by omega); have d3 : (4 : Int) ≤ (s.size : Int) := by omega
 go_wp2_with fail; obtain ⟨g, hg⟩ : ∃ g, w1.heap.size = g := ⟨_, rfl⟩
 have hD0 : DSt w ((w1.alloc (.cells #[.string s, O Y 4, O Y 0] 210)).alloc (.cells #[O Y 0, O Y 0, O Y 0, O Y 0, .slice none 0 0, .slice none 0 0, .slice none 0 0] 26)) g s 4 (imC 0 im (.slice none 0 0) (.slice none 0 0) (.slice none 0 0)) := by
  rw [← hg]; have q := hb1.size; simp at q; refine ⟨(Below.heap_alloc _ _ _ (by simp)).trans (heap_alloc_last w1 _), by simpa [imC, upTo] using heap_alloc_last (w1.alloc (.cells #[.string s, O Y 4, O Y 0] 210)) (.cells #[O Y 0, O Y 0, O Y 0, O Y 0, .slice none 0 0, .slice none 0 0, .slice none 0 0] 26), ?_, by omega, ?_⟩
  · rw [Below.heap_alloc _ _ _ (by simp; omega), Below.heap_alloc _ _ _ (by omega), hb1.block _ (by simp)]; exact heap_alloc_last w _
  · exact ((((BR w.heap.size w).alloc (NR _) _).trans (hb1.mono (by simp))).alloc (by omega) _).alloc (by simp; omega) _
 have hgs : g + 2 ≤ ((w1.alloc (.cells #[.string s, O Y 4, O Y 0] 210)).alloc (.cells #[O Y 0, O Y 0, O Y 0, O Y 0, .slice none 0 0, .slice none 0 0, .slice none 0 0] 26)).heap.size := by rw [← hg]; simp
 generalize (w1.alloc (.cells #[.string s, O Y 4, O Y 0] 210)).alloc (.cells #[O Y 0, O Y 0, O Y 0, O Y 0, .slice none 0 0, .slice none 0 0, .slice none 0 0] 26) = W0 at *; rw [hg]; replace hD0 := ZZ hD0; replace hgs := ZZ hgs; clear hb1 hg hsx hl4 hsz d1 d2 d3; have i0 : ∀ w', (Instr.index 212 (.agg #[.pointer (some ⟨g + 1, 0, none⟩), .pointer (some ⟨g + 1, 1, none⟩), .pointer (some ⟨g + 1, 2, none⟩), .pointer (some ⟨g + 1, 3, none⟩)]) (O Y 0)).run Tryz.prog w' = .ok (.pointer (some ⟨g + 1, 0, none⟩)) w' := fun w' => idxQ (g + 1) 0 w' (by omega); have i1 : ∀ w', (Instr.index 212 (.agg #[.pointer (some ⟨g + 1, 0, none⟩), .pointer (some ⟨g + 1, 1, none⟩), .pointer (some ⟨g + 1, 2, none⟩), .pointer (some ⟨g + 1, 3, none⟩)]) (O Y 1)).run Tryz.prog w' = .ok (.pointer (some ⟨g + 1, 1, none⟩)) w' := fun w' => idxQ (g + 1) 1 w' (by omega); have i2 : ∀ w', (Instr.index 212 (.agg #[.pointer (some ⟨g + 1, 0, none⟩), .pointer (some ⟨g + 1, 1, none⟩), .pointer (some ⟨g + 1, 2, none⟩), .pointer (some ⟨g + 1, 3, none⟩)]) (O Y 2)).run Tryz.prog w' = .ok (.pointer (some ⟨g + 1, 2, none⟩)) w' := fun w' => idxQ (g + 1) 2 w' (by omega); have i3 : ∀ w', (Instr.index 212 (.agg #[.pointer (some ⟨g + 1, 0, none⟩), .pointer (some ⟨g + 1, 1, none⟩), .pointer (some ⟨g + 1, 2, none⟩), .pointer (some ⟨g + 1, 3, none⟩)]) (O Y 3)).run Tryz.prog w' = .ok (.pointer (some ⟨g + 1, 3, none⟩)) w' := fun w' => idxQ (g + 1) 3 w' (by omega); go_loopw [38] (fun vi wr => L1Rel w g s 4 im vi wr) (fun vi _ => 4 - (intOf vi).toNat); case atStart => exact ⟨0, by omega, rfl, hD0.out⟩
 case round =>
  obtain ⟨k, hk, rfl, hD⟩ := hrel; replace hD := ZZ hD; rcases (by omega : k = 0 ∨ k = 1 ∨ k = 2 ∨ k = 3 ∨ k = 4) with rfl | rfl | rfl | rfl | rfl
  · have hN := hN0.out g wr hD.out.rd; replace hN := ZZ hN; go_wp2_with fail; refine hN.out.out.mono ?_; rintro e w2 ⟨rfl, hr2, hk2⟩; have hD2 := ZZ (hD.out.keeps hk2 hr2); obtain ⟨z1, z2⟩ := hD2.out.cell 0 (O Y 0) rfl; clear hk2 hr2; go_wp2_with fail; exact ⟨⟨1, by omega, rfl, hD2.out.put 0 (O Y im.sw)⟩, by simp [intOf]⟩
  · have hN := hN1.out g wr hD.out.rd; replace hN := ZZ hN; go_wp2_with fail; refine hN.out.out.mono ?_; rintro e w2 ⟨rfl, hr2, hk2⟩; have hD2 := ZZ (hD.out.keeps hk2 hr2); obtain ⟨z1, z2⟩ := hD2.out.cell 1 (O Y 0) rfl; clear hk2 hr2; go_wp2_with fail; exact ⟨⟨2, by omega, rfl, hD2.out.put 1 (O Y im.la)⟩, by simp [intOf]⟩
  · have hN := hN2.out g wr hD.out.rd; replace hN := ZZ hN; go_wp2_with fail; refine hN.out.out.mono ?_; rintro e w2 ⟨rfl, hr2, hk2⟩; have hD2 := ZZ (hD.out.keeps hk2 hr2); obtain ⟨z1, z2⟩ := hD2.out.cell 2 (O Y 0) rfl; clear hk2 hr2; go_wp2_with fail; exact ⟨⟨3, by omega, rfl, hD2.out.put 2 (O Y im.co)⟩, by simp [intOf]⟩
  · have hN := hN3.out g wr hD.out.rd; replace hN := ZZ hN; go_wp2_with fail; refine hN.out.out.mono ?_; rintro e w2 ⟨rfl, hr2, hk2⟩; have hD2 := ZZ (hD.out.keeps hk2 hr2); obtain ⟨z1, z2⟩ := hD2.out.cell 3 (O Y 0) rfl; clear hk2 hr2; go_wp2_with fail; exact ⟨⟨4, by omega, rfl, hD2.out.put 3 (O Y im.inp)⟩, by simp [intOf]⟩
  · have hD4 : DSt w wr g s n2 (imC 4 im (.slice none 0 0) (.slice none 0 0) (.slice none 0 0)) := by rw [← f2.out]; exact hD.out
    have hA := ZZ (hS.out g wr hD4.rd); replace hD4 := ZZ hD4; clear hD i0 i1 i2 i3; go_wp2_with fail; refine hA.out.out.mono ?_; rintro e w2 ⟨vs, rfl, hs2, hr2, hk2⟩; obtain ⟨As, cs, rfl, -⟩ := LRow.slice hs2; have hD2 := hD4.out.keeps hk2 hr2; obtain ⟨z1, z2⟩ := hD2.cell 4 (.slice none 0 0) rfl; have hgw : g + 2 ≤ wr.heap.size := by have := (ltA hD4.out.im); omega
    obtain ⟨W3, hW3⟩ : ∃ W3, w2.setCell ⟨g + 1, 4, none⟩ (.slice As im.safe.length cs) = W3 := ⟨_, rfl⟩
    have hD3 : DSt w W3 g s n3 (imC 4 im (.slice As im.safe.length cs) (.slice none 0 0) (.slice none 0 0)) := by rw [← hW3]; exact hD2.put 4 _
    have hs3 : LRow W3 (g + 2) 3 1 (.slice As im.safe.length cs) im.safe.length (im.safe.map (O Y)) := by rw [← hW3]; exact LRow.keeps (LRow.mono hs2 hgw) (Keeps.setCell (Keeps.refl [g + 1] w2) (g + 1) 4 _ (.inl (by simp))) (by simp)
    have hM := ZZ (hM1.out g W3 hD3.rd); replace hD3 := ZZ hD3; replace hs3 := ZZ hs3; clear hk2 hr2 hD2 hs2 hgw hA hD4; go_wp2_with fail; clear hW3 z1 z2; refine hM.out.out.mono ?_; rintro e w4 ⟨rfl, hr4, hk4⟩; have hD4 := ZZ (hD3.out.keeps hk4 hr4); have hs4 := ZZ (LRow.keeps hs3.out hk4 (by simp)); clear hk4 hr4 hM hD3 hs3; go_wp2_with fail; go_loopw [51] (fun vi wr => L2Rel w g s n4 im (.slice As im.safe.length cs) vi wr) (fun vi _ => im.blocks.length - (intOf vi).toNat); case atStart => exact ⟨0, .slice none 0 0, by omega, rfl, hD4.out, ⟨[], LRow.nil _ _ _ _, by intro j l h; simp at h⟩, hs4.out⟩
    case round =>
     obtain ⟨k, vb, hk, rfl, hD, hB1, hS1⟩ := hrel; replace hD := ZZ hD; replace hB1 := ZZ hB1; replace hS1 := ZZ hS1; by_cases hd : k < im.blocks.length
     · obtain ⟨l, hl⟩ : ∃ l, im.blocks[k]? = some l := ⟨_, GE hd⟩
       have b1 : ((k : Nat) : Int) < (im.blocks.length : Int) := by omega
       have hBk := ZZ (hB.out k l hl); have hgw := ZZ (show g + 2 ≤ wr.heap.size by have := (ltA hD.out.im); omega); have hbl := ZZ hfin.out.2.2.2.bl; have hk9 : (k : Int) ≤ 8 := by have := hbl.out; omega
       obtain ⟨Ab, cb, hvb⟩ := BlkRow.slice hB1.out k (by simp; omega); subst hvb; have c5 := (hD.out.cell 5 (.slice Ab k cb) rfl).1; go_wp2_with fail; refine st 8 (S := fun w' => w'.cell? ⟨g + 1, 5, none⟩ = some (.slice Ab k cb)) (ds := [5, 7]) c5 (fun hHeld => ?_); refine pq 0 ?_; refine pq 2 ?_; refine tk 1 hHeld ?_; refine rg1 3 (fun K hK => ?_); refine goes_ Tryz.func97 (by kernel_rfl) rfl #[.pointer (some ⟨g, 0, none⟩)] (by rfl) rfl rfl (by (try simp only [MA, List.map_cons, List.map_nil]); first | done | rfl) ?_; refine (hBk.out g _ (hD.out.rd.step (BR _ _).drew)).mono ?_; rintro e w5 ⟨u, rfl, hu, hr5, hk5⟩; refine ⟨_, rfl, ?_⟩; obtain ⟨Au, cu, rfl, -⟩ := LRow.slice hu; have hk5 : Keeps [g] wr w5 := (Keeps.of_below (BR _ _).drew [g]).trans hk5; have hD5 := ZZ (hD.out.keeps hk5 hr5); have hB5 := ZZ (hB1.out.keeps hk5 (by simp)); have hS5 := ZZ (LRow.keeps hS1.out hk5 (by simp)); have hu5 := ZZ (LRow.mono hu hgw.out); have hg5 := ZZ (Nat.le_trans hgw.out hk5.size); have c5 := (hD5.out.cell 5 (.slice Ab k cb) rfl).1; clear hk5 hr5 hu; refine hK.out _ _ c5 (fun hHeld => ?_); clear hK K; refine nm ?_; refine rg1 4 (fun K hK => ?_); refine value_ (w1 := ?_) (v := ?_) (by rfl) rfl ?_ ?_; rotate_left 2
       · go_simp; constructor
         · rfl
         · rfl
       refine hK.out _ _ (cell_keep ((BR _ _).alloc (NR _) _) (NR _) c5) (fun hHeld => ?_); clear hK K; refine nm ?_; refine rg2 5 (fun K hK => ?_); refine step_blk (by rfl) (.tmp 54) (.tmp 57) rfl (.slice Ab k cb) (im.blocks.take k) l (.slice Au l.length cu) rfl rfl hB5.out hu5.out hg5.out (by have := hbl.out; simp; omega) ?_; intro v1 w6 hB6 hb6 hoth; obtain ⟨A1, c1, hv1⟩ := BlkRow.slice hB6 (k + 1) (by simp; omega); subst hv1; have hD6 := hD5.out.step hb6; obtain ⟨z1, z2⟩ := hD6.cell 5 (.slice Ab k cb) rfl; have hS6 := ZZ (hoth _ _ _ _ _ (by decide) hS5.out); replace hD6 := ZZ hD6; replace hB6 := ZZ hB6; clear hb6 hoth; refine hK.out _ _ ?_; clear hK K; refine nm ?_; refine pq 6 ?_; refine rg2 7 (fun K hK => ?_); refine skip_ (w1 := ?_) (by rfl) rfl ?_ ?_; rotate_left
       · go_simp; rfl
       refine hK.out _ _ ?_; clear hK K; refine dn ?_; clear hHeld; go_wp2_with fail; refine ⟨⟨k + 1, _, hd, by go_num, hD6.out.put 5 _, ?_, ?_⟩, by simp [intOf]; omega⟩
       · rw [take_next _ k l hl]; exact hB6.out.keeps (Keeps.setCell (Keeps.refl [g + 1] w6) (g + 1) 5 _ (.inl (by simp))) (by simp)
       · exact LRow.keeps hS6.out (Keeps.setCell (Keeps.refl [g + 1] w6) (g + 1) 5 _ (.inl (by simp))) (by simp)
     · have hke : k = im.blocks.length := by omega
       subst hke; rw [List.take_length] at hB1; have hD5 : DSt w wr g s n5 (imC 4 im (.slice As im.safe.length cs) vb (.slice none 0 0)) := by have := hD.out; rw [List.take_length] at this; rw [← f5h.out]; exact this
       have hM := ZZ (hM2.out g wr hD5.rd); obtain ⟨Ab, cb, hvb⟩ := BlkRow.slice hB1.out _ rfl; subst hvb; have b1 : ¬ (((im.blocks.length : Nat) : Int) < (im.blocks.length : Int)) := by omega
       replace hD5 := ZZ hD5; clear hD hk hd; go_wp2_with fail; refine hM.out.out.mono ?_; rintro e w4 ⟨rfl, hr4, hk4⟩; have hD6 := ZZ (hD5.out.keeps hk4 hr4); have hS6 := ZZ (LRow.keeps hS1.out hk4 (by simp)); have hB6 := ZZ (hB1.out.keeps hk4 (by simp)); clear hk4 hr4 hM hD5 hS1 hB1 b1; go_wp2_with fail; go_loopw [63] (fun vi wr => L3Rel w g s n6 im (.slice As im.safe.length cs) (.slice Ab im.blocks.length cb) vi wr) (fun vi _ => im.tasks.length - (intOf vi).toNat); case atStart => exact ⟨0, .slice none 0 0, by omega, rfl, hD6.out, ⟨[], rfl, LRow.nil _ _ _ _, by intro j t u h; simp at h⟩, hB6.out, hS6.out⟩
       case round =>
        obtain ⟨k, vt, hk, rfl, hD, hT1, hB1, hS1⟩ := hrel; replace hD := ZZ hD; replace hT1 := ZZ hT1; replace hB1 := ZZ hB1; replace hS1 := ZZ hS1; by_cases hd : k < im.tasks.length
        · obtain ⟨t, ht⟩ : ∃ t, im.tasks[k]? = some t := ⟨_, GE hd⟩
          have b1 : ((k : Nat) : Int) < (im.tasks.length : Int) := by omega
          have hBk := ZZ (hT.out k t ht); have hgw := ZZ (show g + 2 ≤ wr.heap.size by have := (ltA hD.out.im); omega); have hbl := ZZ hfin.out.2.2.2.tl; have hk9 : (k : Int) ≤ 8 := by have := hbl.out; omega
          obtain ⟨At, ct, hvt⟩ := TaskRow.slice hT1.out k (by simp; omega); subst hvt; have c5 := (hD.out.cell 6 (.slice At k ct) rfl).1; go_wp2_with fail; refine st 8 (S := fun w' => w'.cell? ⟨g + 1, 6, none⟩ = some (.slice At k ct)) (ds := [5, 7]) c5 (fun hHeld => ?_); refine pq 0 ?_; refine pq 2 ?_; refine tk 1 hHeld ?_; refine rg1 3 (fun K hK => ?_); refine goes_ Tryz.func99 (by kernel_rfl) rfl #[.pointer (some ⟨g, 0, none⟩)] (by rfl) rfl rfl (by (try simp only [MA, List.map_cons, List.map_nil]); first | done | rfl) ?_; refine (hBk.out g _ (hD.out.rd.step (BR _ _).drew)).mono ?_; rintro e w5 ⟨vv, vo, vc, rfl, hu1, hu2, hu3, hr5, hk5⟩; refine ⟨_, rfl, ?_⟩; obtain ⟨Av, cv, rfl, -⟩ := LRow.slice hu1; obtain ⟨Ao, co, rfl, -⟩ := LRow.slice hu2; obtain ⟨Ac, cc, rfl, -⟩ := LRow.slice hu3; have hk5 : Keeps [g] wr w5 := (Keeps.of_below (BR _ _).drew [g]).trans hk5; have hD5 := ZZ (hD.out.keeps hk5 hr5); have hT5 := ZZ (hT1.out.keeps hk5 (by simp)); have hB5 := ZZ (hB1.out.keeps hk5 (by simp)); have hS5 := ZZ (LRow.keeps hS1.out hk5 (by simp)); have hu5 := ZZ (And.intro (LRow.mono hu1 hgw.out) (And.intro (LRow.mono hu2 hgw.out) (LRow.mono hu3 hgw.out))); have hg5 := ZZ (Nat.le_trans hgw.out hk5.size); have c5 := (hD5.out.cell 6 (.slice At k ct) rfl).1; clear hk5 hr5 hu1 hu2 hu3; refine hK.out _ _ c5 (fun hHeld => ?_); clear hK K; refine nm ?_; refine rg1 4 (fun K hK => ?_); refine value_ (w1 := ?_) (v := ?_) (by rfl) rfl ?_ ?_; rotate_left 2
          · go_simp; constructor
            · rfl
            · rfl
          refine hK.out _ _ (cell_keep ((BR _ _).alloc (NR _) _) (NR _) c5) (fun hHeld => ?_); clear hK K; refine nm ?_; refine rg2 5 (fun K hK => ?_); refine step_task (by rfl) (.tmp 66) (.tmp 69) rfl (.slice At k ct) (im.tasks.take k) t (.slice Av t.blocks.length cv) (.slice Ao t.outs.length co) (.slice Ac t.code.length cc) rfl rfl hT5.out hu5.out.1 hu5.out.2.1 hu5.out.2.2 hg5.out (by have := hbl.out; simp; omega) ?_; intro v1 w6 hT6 hb6 hoth; obtain ⟨A1, c1, hv1⟩ := TaskRow.slice hT6 (k + 1) (by simp; omega); subst hv1; have hD6 := hD5.out.step hb6; obtain ⟨z1, z2⟩ := hD6.cell 6 (.slice At k ct) rfl; have hS6 := ZZ (hoth _ _ _ _ _ (by decide) hS5.out); have hB6 := ZZ (hB5.out.via hoth); replace hD6 := ZZ hD6; replace hT6 := ZZ hT6; clear hb6 hoth; refine hK.out _ _ ?_; clear hK K; refine nm ?_; refine pq 6 ?_; refine rg2 7 (fun K hK => ?_); refine skip_ (w1 := ?_) (by rfl) rfl ?_ ?_; rotate_left
          · go_simp; rfl
          refine hK.out _ _ ?_; clear hK K; refine dn ?_; clear hHeld; go_wp2_with fail; refine ⟨⟨k + 1, _, hd, by go_num, hD6.out.put 6 _, ?_, ?_, ?_⟩, by simp [intOf]; omega⟩
          · rw [take_next _ k t ht]; exact hT6.out.keeps (Keeps.setCell (Keeps.refl [g + 1] w6) (g + 1) 6 _ (.inl (by simp))) (by simp)
          · exact hB6.out.keeps (Keeps.setCell (Keeps.refl [g + 1] w6) (g + 1) 6 _ (.inl (by simp))) (by simp)
          · exact LRow.keeps hS6.out (Keeps.setCell (Keeps.refl [g + 1] w6) (g + 1) 6 _ (.inl (by simp))) (by simp)
        · have hke : k = im.tasks.length := by omega
          subst hke; rw [List.take_length] at hT1; have hDe : DSt w wr g s s.size (imC 4 im (.slice As im.safe.length cs) (.slice Ab im.blocks.length cb) vt) := by have := hD.out; rw [List.take_length] at this; rw [← hfin.out.1]; exact this
          obtain ⟨At, ct, hvt⟩ := TaskRow.slice hT1.out _ rfl; subst hvt; have b1 : ¬ (((im.tasks.length : Nat) : Int) < (im.tasks.length : Int)) := by omega
          obtain ⟨c0, c1, c2, -⟩ := hDe.rd.cells; have x0 := (hDe.cell 0 (O Y im.sw) rfl).1; have x1 := (hDe.cell 1 (O Y im.la) rfl).1; have x2 := (hDe.cell 2 (O Y im.co) rfl).1; have x3 := (hDe.cell 3 (O Y im.inp) rfl).1; have x4 := (hDe.cell 4 (.slice As im.safe.length cs) rfl).1; have x5 := (hDe.cell 5 (.slice Ab im.blocks.length cb) rfl).1; have x6 := (hDe.cell 6 (.slice At im.tasks.length ct) rfl).1; obtain ⟨hok, hsm, hi⟩ := hfin.out.2; have hIm : ImageAt wr (.agg #[O Y im.sw, O Y im.la, O Y im.co, O Y im.inp, .slice As im.safe.length cs, .slice Ab im.blocks.length cb, .slice At im.tasks.length ct]) im := ⟨_, _, _, rfl, LRow.rowAt hS1.out (by have := hi.sl; omega), hB1.out.rows (by have := hi.bl; omega) (fun l hl => by have := (hi.blocks l hl).2; omega), hT1.out.tasks (by have := hi.tl; omega) (fun t ht => by have h := hi.tasks t ht; have := h.bl; have := h.ol; have := h.cl; omega)⟩
          have hMu := ZZ (must_any g s _ 3 wr hDe.rd); have hR := ZZ (iright_any im _ wr hIm hsm); rw [hok] at hR; have hgw := ZZ (show g + 2 ≤ wr.heap.size by have := (ltA hDe.im); omega); replace hDe := ZZ hDe; replace hi := ZZ hi; clear hIm hD hk hd hsm hok; go_wp2_with fail; refine hMu.out.mono ?_; rintro e w6 ⟨rfl, rfl⟩; go_wp2_with fail; refine hR.out.mono ?_; rintro e w7 ⟨rfl, hb7⟩; have hD7 := hDe.out.step (hb7.mono hgw.out); have hk7 := Keeps.of_below hb7 []; have hS7 := ZZ (LRow.keeps hS1.out hk7 (by simp)); have hB7 := ZZ (hB1.out.keeps hk7 (by simp)); have hT7 := ZZ (hT1.out.keeps hk7 (by simp)); have hMv := ZZ (must_any g s _ 12 w7 hD7.rd); obtain ⟨e0, e1, e2, -⟩ := hD7.rd.cells; have y0 := (hD7.cell 0 (O Y im.sw) rfl).1; have y1 := (hD7.cell 1 (O Y im.la) rfl).1; have y2 := (hD7.cell 2 (O Y im.co) rfl).1; have y3 := (hD7.cell 3 (O Y im.inp) rfl).1; have y4 := (hD7.cell 4 (.slice As im.safe.length cs) rfl).1; have y5 := (hD7.cell 5 (.slice Ab im.blocks.length cb) rfl).1; have y6 := (hD7.cell 6 (.slice At im.tasks.length ct) rfl).1; have r0 : w7.cell? ⟨w.heap.size, 0, none⟩ = some (O Y 0) := (blk_cell hD7.res 0).trans rfl; have fr0 := blk_frozen hD7.res 0; have r1 : w7.cell? ⟨w.heap.size, 1, none⟩ = some (O Y 0) := (blk_cell hD7.res 1).trans rfl; have fr1 := blk_frozen hD7.res 1; have r2 : w7.cell? ⟨w.heap.size, 2, none⟩ = some (O Y 0) := (blk_cell hD7.res 2).trans rfl; have fr2 := blk_frozen hD7.res 2; have r3 : w7.cell? ⟨w.heap.size, 3, none⟩ = some (O Y 0) := (blk_cell hD7.res 3).trans rfl; have fr3 := blk_frozen hD7.res 3; have r4 : w7.cell? ⟨w.heap.size, 4, none⟩ = some (.slice none 0 0) := (blk_cell hD7.res 4).trans rfl; have fr4 := blk_frozen hD7.res 4; have r5 : w7.cell? ⟨w.heap.size, 5, none⟩ = some (.slice none 0 0) := (blk_cell hD7.res 5).trans rfl; have fr5 := blk_frozen hD7.res 5; have r6 : w7.cell? ⟨w.heap.size, 6, none⟩ = some (.slice none 0 0) := (blk_cell hD7.res 6).trans rfl; have fr6 := blk_frozen hD7.res 6; replace hD7 := ZZ hD7; clear hb7 hk7 hDe hS1 hB1 hT1 hMu hR x0 x1 x2 x3 x4 x5 x6 c0 c1 c2 hgw; go_wp2_with fail; refine hMv.out.mono ?_; rintro e w8 ⟨rfl, rfl⟩; obtain ⟨W8, hW8⟩ : ∃ W8, (((((((w8.setCell ⟨w.heap.size, 0, none⟩ (O Y im.sw)).setCell ⟨w.heap.size, 1, none⟩ (O Y im.la)).setCell ⟨w.heap.size, 2, none⟩ (O Y im.co)).setCell ⟨w.heap.size, 3, none⟩ (O Y im.inp)).setCell ⟨w.heap.size, 4, none⟩ (.slice As im.safe.length cs)).setCell ⟨w.heap.size, 5, none⟩ (.slice Ab im.blocks.length cb)).setCell ⟨w.heap.size, 6, none⟩ (.slice At im.tasks.length ct)) = W8 := ⟨_, rfl⟩
          obtain ⟨hE, kE⟩ := fill7 (O Y im.sw) (O Y im.la) (O Y im.co) (O Y im.inp) (.slice As im.safe.length cs) (.slice Ab im.blocks.length cb) (.slice At im.tasks.length ct) hD7.out.res; rw [hW8] at hE kE; have hlo := hD7.out.lo; have hS8 := LRow.keeps hS7.out kE (by simp; omega); have hB8 := hB7.out.keeps kE (by simp; omega); have hT8 := hT7.out.keeps kE (by simp; omega); have hR8 := ZZ (And.intro (show ∃ B, w.heap.size < B ∧ OwnIm W8 B (.agg #[O Y im.sw, O Y im.la, O Y im.co, O Y im.inp, .slice As im.safe.length cs, .slice Ab im.blocks.length cb, .slice At im.tasks.length ct]) im from ⟨_, by omega, _, _, _, rfl, hS8, hB8, hT8⟩) (hD7.out.bel.trans (Keeps.bel_new kE hD7.out.bel.size))); replace hE := ZZ hE; clear hS8 hB8 hT8 kE hlo; go_wp2_with fail; refine bodyPost_ret (results_ct rfl _ _ w.heap.size 26 _ (0, 0) _ rfl hE.out Tryz.underlying26 rfl (by kernel_rfl)) rfl ?_; exact ⟨_, rfl, hR8.out⟩
end Go.Proofs.YtoopeamoejmjeaaGreat.Tp
