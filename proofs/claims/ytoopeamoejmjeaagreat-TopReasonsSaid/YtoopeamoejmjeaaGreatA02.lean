/- Steps of the walk, merged and shortened by a program (fit.py). -/
import Derived.DeepKeys
import Derived.Laws.DeepNot64
import Derived.Lib.Hide
import Derived.ScopeJumps
import Derived.Test.YtoopeamoejmjeaaGreatA01
import Derived.Test.YtoopeamoejmjeaaGreatWCut
set_option linter.unusedVariables false
set_option linter.unusedSimpArgs false
set_option maxRecDepth 100000
set_option maxHeartbeats 4000000
open Nat renaming le_refl → NR
open List renaming getElem?_eq_getElem → GE
open Go.RowKit.Below renaming refl → BR
open ByteArray renaming empty → BE
open List renaming getD_eq_getElem?_getD → GD
open Array renaming mem_of_getElem? → AM
open List renaming mem_of_getElem? → LM
open List renaming getElem?_eq_some_iff → GI
open List renaming map_toArray → MA
open Go.RowKit.Below renaming heap_setCell → BH
open Go.Lib renaming hid → ZZ
open Go.Value renaming int → O
open Go.IntKind renaming i64 → Y
namespace Go.Proofs.YtoopeamoejmjeaaGreat.Tp
open RowKit YtoopeamoejmjeaaGreatW.PrintWords YtoopeamoejmjeaaGreatW.PrintLast YtoopeamoejmjeaaGreatW.PrintMore Tm
structure TaskD where
 prio : Int
 period : Int
 deadline : Int
 jitter : Int
 blocks : List Int
 outs : List Int
 code : List I3
def Cells7 (W : World) (g : Nat) (p q d j : Int) (Ab Ao Ac : Option Addr) (nb no nc cb co cc : Nat) : Prop := W.cell? ⟨g, 0, none⟩ = some (O Y p) ∧ W.cell? ⟨g, 1, none⟩ = some (O Y q) ∧ W.cell? ⟨g, 2, none⟩ = some (O Y d) ∧ W.cell? ⟨g, 3, none⟩ = some (O Y j) ∧ W.cell? ⟨g, 4, none⟩ = some (.slice Ab nb cb) ∧ W.cell? ⟨g, 5, none⟩ = some (.slice Ao no co) ∧ W.cell? ⟨g, 6, none⟩ = some (.slice Ac nc cc)
theorem Cells7.keep {W w5 : World} {B g : Nat} {p q d j : Int} {Ab Ao Ac : Option Addr} {nb no nc cb co cc : Nat} (hb : Below B W w5) (hB : W.heap.size ≤ B) (h : Cells7 W g p q d j Ab Ao Ac nb no nc cb co cc) : Cells7 w5 g p q d j Ab Ao Ac nb no nc cb co cc :=
 ⟨cell_keep hb hB h.1, cell_keep hb hB h.2.1, cell_keep hb hB h.2.2.1, cell_keep hb hB h.2.2.2.1, cell_keep hb hB h.2.2.2.2.1, cell_keep hb hB h.2.2.2.2.2.1, cell_keep hb hB h.2.2.2.2.2.2⟩
theorem Cells7.of {W : World} {g : Nat} {t : TypeId} {p q d j : Int} {Ab Ao Ac : Option Addr} {nb no nc cb co cc : Nat} (h : W.heap[g]? = some (.cells #[O Y p, O Y q, O Y d, O Y j, .slice Ab nb cb, .slice Ao no co, .slice Ac nc cc] t (0, 0))) : Cells7 W g p q d j Ab Ao Ac nb no nc cb co cc :=
 ⟨(blk_cell h 0).trans rfl, (blk_cell h 1).trans rfl, (blk_cell h 2).trans rfl, (blk_cell h 3).trans rfl, (blk_cell h 4).trans rfl, (blk_cell h 5).trans rfl, (blk_cell h 6).trans rfl⟩
theorem eq120 (a b c d a' b' c' d' : Int) (w : World) : (Op.equalIn 10000 120 (.agg #[O Y a, O Y b, O Y c, O Y d]) (.agg #[O Y a', O Y b', O Y c', O Y d'])).run Tryz.prog w = .ok ((a == a') && ((b == b') && ((c == c') && (d == d')))) w := by
 obtain ⟨i0, hi, hz⟩ := Option.map_eq_some_iff.1 (show (Tryz.prog.info? 3).map (·.size) = some 1 by kernel_rfl); have h9 : (10000 : Nat) = 9999 + 1 := rfl; rw [h9, Op.equalIn]; have he := fun (x y : Int) (w : World) => run_equalIn_int (P := Tryz.prog) w 9998 3 .i64 .i64 x y Tryz.underlying3; simp [run_underlying Tryz.underlying120, sizeOf, typeInfo, hi, hz, part, isAgg, run_underlying Tryz.underlying3, Std.Legacy.Range.forIn_eq_forIn_range', List.range', he]; by_cases h1 : a = a' <;> by_cases h2 : b = b' <;> by_cases h3 : c = c' <;> by_cases h4 : d = d' <;> simp [h1, h2, h3, h4]
def numsB (p q d j : Int) : Bool := (mx 1 (mn p 100) == p) && ((mx 1 (mn q 1048576) == q) && ((mx 1 (mn d (mx 1 (mn q 1048576))) == d) && (mx 0 (mn j 1048576) == j)))
def TaskD.ok (t : TaskD) (nb ns : Nat) : Bool := numsB t.prio t.period t.deadline t.jitter && (!(t.code.length == 0) && (risesB nb (-1) t.blocks && (risesB ns (-1) t.outs && !(codeB t.code).toList.isEmpty)))
theorem task_any (p q d j : Int) (Ab Ao Ac : Option Addr) (cb co cc : Nat) (bl ol : List Int) (cl : List I3) (i0 i1 i2 i3 : Int) (As Abk : Option Addr) (ns nbk cs cbk : Nat) (vt : Value) (w : World) (hb : IntsAt w (.slice Ab bl.length cb) bl) (ho : IntsAt w (.slice Ao ol.length co) ol) (hc : CodeAt w (.slice Ac cl.length cc) cl) (hs : ∀ x ∈ cl, SmI x) : Calls Tryz.prog 19 #[.agg #[O Y p, O Y q, O Y d, O Y j, .slice Ab bl.length cb, .slice Ao ol.length co, .slice Ac cl.length cc], .agg #[O Y i0, O Y i1, O Y i2, O Y i3, .slice As ns cs, .slice Abk nbk cbk, vt]] w fun x w' => x = .returned (.bool (TaskD.ok ⟨p, q, d, j, bl, ol, cl⟩ nbk ns)) ∧ Below w.heap.size w w' := by
 have Hb := ZZ hb; have Ho := ZZ ho; have Hc := ZZ hc; have Hs := ZZ hs; clear hb ho hc hs; go_enter Tryz.func19, Tryz.ntmps19; go_wp2_with fail; have HC : Cells7 ((w.alloc (.cells #[O Y p, O Y q, O Y d, O Y j, .slice Ab bl.length cb, .slice Ao ol.length co, .slice Ac cl.length cc] 45)).alloc (.cells #[O Y i0, O Y i1, O Y i2, O Y i3, .slice As ns cs, .slice Abk nbk cbk, vt] 26)) w.heap.size p q d j Ab Ao Ac bl.length ol.length cl.length cb co cc := Cells7.keep ((BR _ _).alloc (NR _) _) (NR _) (Cells7.of (heap_alloc_last w _)); have hbI : ((w.alloc (.cells #[O Y p, O Y q, O Y d, O Y j, .slice Ab bl.length cb, .slice Ao ol.length co, .slice Ac cl.length cc] 45)).alloc (.cells #[O Y i0, O Y i1, O Y i2, O Y i3, .slice As ns cs, .slice Abk nbk cbk, vt] 26)).heap[w.heap.size + 1]? = some (.cells #[O Y i0, O Y i1, O Y i2, O Y i3, .slice As ns cs, .slice Abk nbk cbk, vt] 26 (0, 0)) := by simpa using heap_alloc_last (w.alloc (.cells #[O Y p, O Y q, O Y d, O Y j, .slice Ab bl.length cb, .slice Ao ol.length co, .slice Ac cl.length cc] 45)) (.cells #[O Y i0, O Y i1, O Y i2, O Y i3, .slice As ns cs, .slice Abk nbk cbk, vt] 26)
 have HI := And.intro (show _ = some (.slice As ns cs) from (blk_cell hbI 4).trans rfl) (show _ = some (.slice Abk nbk cbk) from (blk_cell hbI 5).trans rfl); have hB := ZZ (((BR w.heap.size w).alloc (NR _) (.cells #[O Y p, O Y q, O Y d, O Y j, .slice Ab bl.length cb, .slice Ao ol.length co, .slice Ac cl.length cc] 45)).alloc (by simp) (.cells #[O Y i0, O Y i1, O Y i2, O Y i3, .slice As ns cs, .slice Abk nbk cbk, vt] 26)); clear hbI; generalize (w.alloc (.cells #[O Y p, O Y q, O Y d, O Y j, .slice Ab bl.length cb, .slice Ao ol.length co, .slice Ac cl.length cc] 45)).alloc (.cells #[O Y i0, O Y i1, O Y i2, O Y i3, .slice As ns cs, .slice Abk nbk cbk, vt] 26) = W2 at *; cases hok : numsB p q d j
 · have hr : TaskD.ok ⟨p, q, d, j, bl, ol, cl⟩ nbk ns = false := by unfold TaskD.ok; rw [hok]; rfl
   replace hr := ZZ hr; replace hok := ZZ hok; refine st 18 (S := fun w' => (Cells7 w' w.heap.size p q d j Ab Ao Ac bl.length ol.length cl.length cb co cc) ∧ w'.cell? ⟨w.heap.size + 1, 4, none⟩ = some (.slice As ns cs) ∧ w'.cell? ⟨w.heap.size + 1, 5, none⟩ = some (.slice Abk nbk cbk)) (ds := []) ⟨HC, HI⟩ (fun hHeld => ?_); refine tk 0 hHeld ?_ (hy := by rintro w' ⟨⟨s0, s1, s2, s3, s4, s5, s6⟩, s7, s8⟩; go_simp; first | with_reducible rfl | rfl); refine pq 2 ?_; refine pq 4 ?_; refine pq 6 ?_; refine pq 8 ?_; refine tk 3 hHeld ?_ (hy := by rintro w' ⟨⟨s0, s1, s2, s3, s4, s5, s6⟩, s7, s8⟩; go_simp; first | with_reducible rfl | rfl); refine tk 5 hHeld ?_ (hy := by rintro w' ⟨⟨s0, s1, s2, s3, s4, s5, s6⟩, s7, s8⟩; go_simp; first | with_reducible rfl | rfl); refine tk 7 hHeld ?_ (hy := by rintro w' ⟨⟨s0, s1, s2, s3, s4, s5, s6⟩, s7, s8⟩; go_simp; first | with_reducible rfl | rfl); refine tk 9 hHeld ?_ (hy := by rintro w' ⟨⟨s0, s1, s2, s3, s4, s5, s6⟩, s7, s8⟩; go_simp; first | with_reducible rfl | rfl); refine pq 10 ?_; refine rg1 1 (fun K hK => ?_); refine goes_ Tryz.func49 (by kernel_rfl) rfl #[.agg #[O Y p, O Y q, O Y d, O Y j, .slice Ab bl.length cb, .slice Ao ol.length co, .slice Ac cl.length cc]] (by rfl) rfl rfl (by (try simp only [MA, List.map_cons, List.map_nil]); first | done | rfl) ?_; refine (numbers_any p q d j _ _ _ _).mono ?_; rintro e w5 ⟨rfl, hb5⟩; refine ⟨_, rfl, ?_⟩; have HC5 := Cells7.keep hb5 (NR _) hHeld.1; have HI5 := And.intro (cell_keep hb5 (NR _) hHeld.2.1) (cell_keep hb5 (NR _) hHeld.2.2); have hB5 := ZZ (hB.out.drew.trans (hb5.mono hB.out.size)); clear hb5 hB hHeld HC HI; refine hK.out _ _ ⟨HC5, HI5⟩ (fun hHeld => ?_); clear hK K; refine nm ?_; refine pq 11 ?_ (v := (.bool true)) (hy := by intro w'; go_simp; rw [show Value.agg (numsC p q d j) = .agg #[O Y (mx 1 (mn p 100)), O Y (mx 1 (mn q 1048576)), O Y (mx 1 (mn d (mx 1 (mn q 1048576)))), O Y (mx 0 (mn j 1048576))] from rfl, eq120]; have hok2 := hok.out; unfold numsB at hok2; rw [hok2]; rfl); refine pq 12 ?_; refine po 13 ?_; refine po 14 ?_; refine po 15 ?_; refine po 16 ?_; refine pq 17 ?_; refine dn ?_; go_wp2_with fail; go_ret; exact ⟨by rw [hr.out]; rfl, hB5.out⟩
 · by_cases hz : cl.length = 0
   · have hr : TaskD.ok ⟨p, q, d, j, bl, ol, cl⟩ nbk ns = false := by unfold TaskD.ok; rw [hok]; show (true && (!(cl.length == 0) && _)) = false; rw [hz]; rfl
     have hcl : ((cl.length : Int) == 0) = true := by rw [hz]; rfl
     replace hr := ZZ hr; replace hok := ZZ hok; replace hz := ZZ hz; refine st 18 (S := fun w' => (Cells7 w' w.heap.size p q d j Ab Ao Ac bl.length ol.length cl.length cb co cc) ∧ w'.cell? ⟨w.heap.size + 1, 4, none⟩ = some (.slice As ns cs) ∧ w'.cell? ⟨w.heap.size + 1, 5, none⟩ = some (.slice Abk nbk cbk)) (ds := []) ⟨HC, HI⟩ (fun hHeld => ?_); refine tk 0 hHeld ?_ (hy := by rintro w' ⟨⟨s0, s1, s2, s3, s4, s5, s6⟩, s7, s8⟩; go_simp; first | with_reducible rfl | rfl); refine pq 2 ?_; refine pq 4 ?_; refine pq 6 ?_; refine pq 8 ?_; refine tk 3 hHeld ?_ (hy := by rintro w' ⟨⟨s0, s1, s2, s3, s4, s5, s6⟩, s7, s8⟩; go_simp; first | with_reducible rfl | rfl); refine tk 5 hHeld ?_ (hy := by rintro w' ⟨⟨s0, s1, s2, s3, s4, s5, s6⟩, s7, s8⟩; go_simp; first | with_reducible rfl | rfl); refine tk 7 hHeld ?_ (hy := by rintro w' ⟨⟨s0, s1, s2, s3, s4, s5, s6⟩, s7, s8⟩; go_simp; first | with_reducible rfl | rfl); refine tk 9 hHeld ?_ (hy := by rintro w' ⟨⟨s0, s1, s2, s3, s4, s5, s6⟩, s7, s8⟩; go_simp; first | with_reducible rfl | rfl); refine pq 10 ?_; refine rg1 1 (fun K hK => ?_); refine goes_ Tryz.func49 (by kernel_rfl) rfl #[.agg #[O Y p, O Y q, O Y d, O Y j, .slice Ab bl.length cb, .slice Ao ol.length co, .slice Ac cl.length cc]] (by rfl) rfl rfl (by (try simp only [MA, List.map_cons, List.map_nil]); first | done | rfl) ?_; refine (numbers_any p q d j _ _ _ _).mono ?_; rintro e w5 ⟨rfl, hb5⟩; refine ⟨_, rfl, ?_⟩; have HC5 := Cells7.keep hb5 (NR _) hHeld.1; have HI5 := And.intro (cell_keep hb5 (NR _) hHeld.2.1) (cell_keep hb5 (NR _) hHeld.2.2); have hB5 := ZZ (hB.out.drew.trans (hb5.mono hB.out.size)); clear hb5 hB hHeld HC HI; refine hK.out _ _ ⟨HC5, HI5⟩ (fun hHeld => ?_); clear hK K; refine nm ?_; refine pq 11 ?_ (v := (.bool false)) (hy := by intro w'; go_simp; rw [show Value.agg (numsC p q d j) = .agg #[O Y (mx 1 (mn p 100)), O Y (mx 1 (mn q 1048576)), O Y (mx 1 (mn d (mx 1 (mn q 1048576)))), O Y (mx 0 (mn j 1048576))] from rfl, eq120]; have hok2 := hok.out; unfold numsB at hok2; rw [hok2]; rfl); refine pq 12 ?_; refine pq 13 ?_; refine tk 14 hHeld ?_ (hy := by rintro w' ⟨⟨s0, s1, s2, s3, s4, s5, s6⟩, s7, s8⟩; go_simp; first | with_reducible rfl | rfl); refine pq 15 ?_; refine pq 16 ?_ (v := (.bool true)) (hy := by intro w'; go_simp; first | done | rw [hcl]); refine pq 17 ?_; refine dn ?_; go_wp2_with fail; go_ret; exact ⟨by rw [hr.out]; rfl, hB5.out⟩
   · have hr : TaskD.ok ⟨p, q, d, j, bl, ol, cl⟩ nbk ns = (risesB nbk (-1) bl && (risesB ns (-1) ol && !(codeB cl).toList.isEmpty)) := by unfold TaskD.ok; rw [hok]; show (true && (!(cl.length == 0) && _)) = _; rw [beq_eq_false_iff_ne.mpr hz]; rfl
     have hcl : ((cl.length : Int) == 0) = false := beq_eq_false_iff_ne.mpr (by omega); replace hok := ZZ hok; replace hz := ZZ hz; refine st 18 (S := fun w' => (Cells7 w' w.heap.size p q d j Ab Ao Ac bl.length ol.length cl.length cb co cc) ∧ w'.cell? ⟨w.heap.size + 1, 4, none⟩ = some (.slice As ns cs) ∧ w'.cell? ⟨w.heap.size + 1, 5, none⟩ = some (.slice Abk nbk cbk)) (ds := []) ⟨HC, HI⟩ (fun hHeld => ?_); refine tk 0 hHeld ?_ (hy := by rintro w' ⟨⟨s0, s1, s2, s3, s4, s5, s6⟩, s7, s8⟩; go_simp; first | with_reducible rfl | rfl); refine pq 2 ?_; refine pq 4 ?_; refine pq 6 ?_; refine pq 8 ?_; refine tk 3 hHeld ?_ (hy := by rintro w' ⟨⟨s0, s1, s2, s3, s4, s5, s6⟩, s7, s8⟩; go_simp; first | with_reducible rfl | rfl); refine tk 5 hHeld ?_ (hy := by rintro w' ⟨⟨s0, s1, s2, s3, s4, s5, s6⟩, s7, s8⟩; go_simp; first | with_reducible rfl | rfl); refine tk 7 hHeld ?_ (hy := by rintro w' ⟨⟨s0, s1, s2, s3, s4, s5, s6⟩, s7, s8⟩; go_simp; first | with_reducible rfl | rfl); refine tk 9 hHeld ?_ (hy := by rintro w' ⟨⟨s0, s1, s2, s3, s4, s5, s6⟩, s7, s8⟩; go_simp; first | with_reducible rfl | rfl); refine pq 10 ?_; refine rg1 1 (fun K hK => ?_); refine goes_ Tryz.func49 (by kernel_rfl) rfl #[.agg #[O Y p, O Y q, O Y d, O Y j, .slice Ab bl.length cb, .slice Ao ol.length co, .slice Ac cl.length cc]] (by rfl) rfl rfl (by (try simp only [MA, List.map_cons, List.map_nil]); first | done | rfl) ?_; refine (numbers_any p q d j _ _ _ _).mono ?_; rintro e w5 ⟨rfl, hb5⟩; refine ⟨_, rfl, ?_⟩; have HC5 := Cells7.keep hb5 (NR _) hHeld.1; have HI5 := And.intro (cell_keep hb5 (NR _) hHeld.2.1) (cell_keep hb5 (NR _) hHeld.2.2); have hB5 := ZZ (hB.out.drew.trans (hb5.mono hB.out.size)); clear hb5 hB hHeld HC HI; refine hK.out _ _ ⟨HC5, HI5⟩ (fun hHeld => ?_); clear hK K; refine nm ?_; refine pq 11 ?_ (v := (.bool false)) (hy := by intro w'; go_simp; rw [show Value.agg (numsC p q d j) = .agg #[O Y (mx 1 (mn p 100)), O Y (mx 1 (mn q 1048576)), O Y (mx 1 (mn d (mx 1 (mn q 1048576)))), O Y (mx 0 (mn j 1048576))] from rfl, eq120]; have hok2 := hok.out; unfold numsB at hok2; rw [hok2]; rfl); refine pq 12 ?_; refine pq 13 ?_; refine tk 14 hHeld ?_ (hy := by rintro w' ⟨⟨s0, s1, s2, s3, s4, s5, s6⟩, s7, s8⟩; go_simp; first | with_reducible rfl | rfl); refine pq 15 ?_; refine pq 16 ?_ (v := (.bool false)) (hy := by intro w'; go_simp; first | done | rw [hcl]); refine pq 17 ?_; refine dn ?_; obtain ⟨t0, t1, t2, t3, t4, t5, t6⟩ := HC5; obtain ⟨t7, t8⟩ := HI5; have N1 := ZZ (rises_any _ bl (nbk : Int) w5 (IntsAt.step Hb.out hB5.out)); have N2 := ZZ (rises_any _ ol (ns : Int) w5 (IntsAt.step Ho.out hB5.out)); have N3 := ZZ (code_any _ cl w5 (CodeAt.step Hc.out hB5.out) Hs.out); go_wp2_with fail; refine N1.out.mono ?_; rintro x w6 ⟨rfl, hw6⟩; rw [hw6]; clear hw6 w6 N1; cases h1 : risesB (nbk : Int) (-1) bl
     · rw [h1] at hr; replace hr := ZZ hr; go_wp2_with fail; go_ret; exact ⟨by rw [hr.out]; rfl, hB5.out⟩
     · rw [h1] at hr; go_wp2_with fail; refine N2.out.mono ?_; rintro x w6 ⟨rfl, hw6⟩; rw [hw6]; clear hw6 w6 N2; cases h2 : risesB (ns : Int) (-1) ol
       · rw [h2] at hr; replace hr := ZZ hr; go_wp2_with fail; go_ret; exact ⟨by rw [hr.out]; rfl, hB5.out⟩
       · rw [h2] at hr; replace hr := ZZ hr; go_wp2_with fail; refine N3.out.mono ?_; rintro x w6 ⟨rfl, hb6⟩; have hB6 := ZZ (hB5.out.trans (hb6.mono hB5.out.size)); clear hb6 N3; go_wp2_with fail; go_ret; exact ⟨by rw [hr.out]; rfl, hB6.out⟩
section
structure ImageD where
 sw : Int
 la : Int
 co : Int
 inp : Int
 safe : List Int
 blocks : List (List Int)
 tasks : List TaskD
def RowsAt (W : World) (v : Value) (L : List (List Int)) : Prop := ∃ A c, v = .slice A L.length c ∧ L.length ≤ c ∧ ∀ (j : Nat) l, L[j]? = some l → ∃ ad u, A = some ad ∧ W.cell? (ad.add j) = some u ∧ IntsAt W u l
def TaskAt (W : World) (p : Addr) (t : TaskD) : Prop := ∃ vb vo vc, W.cell? p = some (O Y t.prio) ∧ W.cell? ⟨p.block, p.off + 1, none⟩ = some (O Y t.period) ∧ W.cell? ⟨p.block, p.off + 2, none⟩ = some (O Y t.deadline) ∧ W.cell? ⟨p.block, p.off + 3, none⟩ = some (O Y t.jitter) ∧ W.cell? ⟨p.block, p.off + 4, none⟩ = some vb ∧ W.cell? ⟨p.block, p.off + 5, none⟩ = some vo ∧ W.cell? ⟨p.block, p.off + 6, none⟩ = some vc ∧ IntsAt W vb t.blocks ∧ IntsAt W vo t.outs ∧ CodeAt W vc t.code
def TasksAt (W : World) (v : Value) (L : List TaskD) : Prop := ∃ A c, v = .slice A L.length c ∧ L.length ≤ c ∧ ∀ (j : Nat) t, L[j]? = some t → ∃ ad, A = some ad ∧ TaskAt W (ad.add (j * 7)) t
def ImageAt (W : World) (v : Value) (im : ImageD) : Prop := ∃ vs vb vt, v = .agg #[O Y im.sw, O Y im.la, O Y im.co, O Y im.inp, vs, vb, vt] ∧ IntsAt W vs im.safe ∧ RowsAt W vb im.blocks ∧ TasksAt W vt im.tasks
theorem RowsAt.step {w w1 : World} {v : Value} {L : List (List Int)} (h : RowsAt w v L) (hb : Below w.heap.size w w1) : RowsAt w1 v L := by
 obtain ⟨A, c, rfl, h1, h2⟩ := h; exact ⟨A, c, rfl, h1, fun j l hj => by
  obtain ⟨ad, u, h3, h4, h5⟩ := h2 j l hj; exact ⟨ad, u, h3, cell_keep hb (NR _) h4, h5.step hb⟩⟩
theorem TaskAt.step {w w1 : World} {p : Addr} {t : TaskD} (h : TaskAt w p t) (hb : Below w.heap.size w w1) : TaskAt w1 p t := by
 obtain ⟨vb, vo, vc, h0, h1, h2, h3, h4, h5, h6, h7, h8, h9⟩ := h; have k := fun {q : Addr} {u : Value} (h : w.cell? q = some u) => cell_keep hb (NR _) h; exact ⟨vb, vo, vc, k h0, k h1, k h2, k h3, k h4, k h5, k h6, h7.step hb, h8.step hb, h9.step hb⟩
theorem TasksAt.step {w w1 : World} {v : Value} {L : List TaskD} (h : TasksAt w v L) (hb : Below w.heap.size w w1) : TasksAt w1 v L := by
 obtain ⟨A, c, rfl, h1, h2⟩ := h; exact ⟨A, c, rfl, h1, fun j t hj => by
  obtain ⟨ad, h3, h4⟩ := h2 j t hj; exact ⟨ad, h3, h4.step hb⟩⟩
theorem ImageAt.step {w w1 : World} {v : Value} {im : ImageD} (h : ImageAt w v im) (hb : Below w.heap.size w w1) : ImageAt w1 v im := by
 obtain ⟨vs, vb, vt, h0, h1, h2, h3⟩ := h; exact ⟨vs, vb, vt, h0, h1.step hb, h2.step hb, h3.step hb⟩
theorem eq67 (a b c d e f g a' b' c' d' e' f' g' : Int) (w : World) : (Op.equalIn 10000 67 (.agg #[O Y a, O Y b, O Y c, O Y d, O Y e, O Y f, O Y g]) (.agg #[O Y a', O Y b', O Y c', O Y d', O Y e', O Y f', O Y g'])).run Tryz.prog w = .ok ((a == a') && ((b == b') && ((c == c') && ((d == d') && ((e == e') && ((f == f') && (g == g'))))))) w := by
 go_simp; by_cases h1 : a = a' <;> by_cases h2 : b = b' <;> by_cases h3 : c = c' <;> by_cases h4 : d = d' <;> by_cases h5 : e = e' <;> by_cases h6 : f = f' <;> by_cases h7 : g = g' <;> simp [h1, h2, h3, h4, h5, h6, h7]
attribute [local go_sem high] eq67
def headOk (a b c d s k t : Int) : Bool := (a == mx 0 (mn a 100)) && ((b == mx 1 (mn b 100)) && ((c == mx 1 (mn c 100)) && ((d == mx 0 (mn d 16)) && ((s == mn s 16) && ((k == mn k 8) && (t == mx 1 (mn t 8)))))))
def blockOk (b : List Int) : Bool := !(b.length == 0) && decide (b.length ≤ 8)
def takeOuts : List Int → List Int → Option (List Int)
 | own, [] => some own
 | own, o :: l => if o ∈ own then none else takeOuts (o :: own) l
def tasksOk (nb ns : Nat) : List Int → List TaskD → Bool
 | _, [] => true
 | own, t :: l => if t.ok nb ns = true then (match takeOuts own t.outs with
  | none => false
  | some own' => tasksOk nb ns own' l) else false
def ImageD.ok (im : ImageD) : Bool := headOk im.sw im.la im.co im.inp im.safe.length im.blocks.length im.tasks.length && (im.blocks.all blockOk && tasksOk im.blocks.length im.safe.length [] im.tasks)
def ImageD.small (im : ImageD) : Prop := ∀ t ∈ im.tasks, ∀ x ∈ t.code, SmI x
theorem rises_bd (e : Int) : ∀ (l : List Int) (last : Int), -1 ≤ last → risesB e last l = true → ∀ o ∈ l, 0 ≤ o ∧ o < e := by
 intro l; induction l with
 | nil => intro last _ _ o ho; cases ho
 | cons n l ih =>
  intro last h0 h o ho; rw [risesB] at h; split at h
  · cases h
  · rcases List.mem_cons.1 ho with rfl | ho
    · omega
    · exact ih n (by omega) h o ho
theorem ok_outs {t : TaskD} {nb ns : Nat} (h : t.ok nb ns = true) : ∀ o ∈ t.outs, 0 ≤ o ∧ o < ns := by
 unfold TaskD.ok at h; simp only [Bool.and_eq_true] at h; exact rises_bd ns t.outs (-1) (by omega) h.2.2.2.1
def OwnAt (W : World) (g : Nat) (own : List Int) : Prop := ∃ cs, W.heap[g]? = some (.cells cs 68 (0, 0)) ∧ ∀ j : Nat, j < 16 → cs[j]? = some (.bool (decide ((j : Int) ∈ own)))
theorem OwnAt.keep {w w1 : World} {g : Nat} {own : List Int} {B : Nat} (h : OwnAt w g own) (hb : Below B w w1) (hg : g < B) : OwnAt w1 g own := by
 obtain ⟨cs, h1, h2⟩ := h; exact ⟨cs, (hb.block g hg).trans h1, h2⟩
theorem OwnAt.cell {w : World} {g : Nat} {own : List Int} (h : OwnAt w g own) (j : Nat) (hj : j < 16) : w.cell? ⟨g, j, none⟩ = some (.bool (decide ((j : Int) ∈ own))) := by
 obtain ⟨cs, h1, h2⟩ := h; exact (blk_cell h1 j).trans (h2 j hj)
theorem OwnAt.fr {w : World} {g : Nat} {own : List Int} (h : OwnAt w g own) (j : Nat) : w.frozen? ⟨g, j, none⟩ = false := by
 obtain ⟨cs, h1, h2⟩ := h; exact blk_frozen h1 j
theorem OwnAt.put {w : World} {g : Nat} {own : List Int} (h : OwnAt w g own) (j : Nat) (hj : j < 16) : OwnAt (w.setCell ⟨g, j, none⟩ (.bool true)) g ((j : Int) :: own) := by
 obtain ⟨cs, h1, h2⟩ := h; refine ⟨_, blk_set h1 j _, fun k hk => ?_⟩; have hs : j < cs.size := (ltA (h2 j hj)); by_cases e : j = k
 · subst e; simp [hs]
 · rw [Array.getElem?_setIfInBounds_ne e, h2 k hk]; have : ¬ (k : Int) = (j : Int) := by omega
   simp [this]
theorem OwnAt.lt {w : World} {g : Nat} {own : List Int} (h : OwnAt w g own) : g < w.heap.size := by
 obtain ⟨cs, h1, _⟩ := h; exact (ltA h1)
def TRel (w : World) (g : Nat) (ci : Array Value) (nb ns : Nat) (L : List TaskD) (vi : Value) (wr : World) : Prop := ∃ (k : Nat) (own : List Int), k ≤ L.length ∧ vi = O Y k ∧ tasksOk nb ns [] L = tasksOk nb ns own (L.drop k) ∧ OwnAt wr g own ∧ wr.heap[w.heap.size]? = some (.cells ci 26 (0, 0)) ∧ Below w.heap.size w wr
def ORel (w : World) (g : Nat) (ci : Array Value) (own : List Int) (L : List Int) (vi : Value) (wr : World) : Prop := ∃ (k : Nat) (own' : List Int), k ≤ L.length ∧ vi = O Y k ∧ takeOuts own L = takeOuts own' (L.drop k) ∧ OwnAt wr g own' ∧ wr.heap[w.heap.size]? = some (.cells ci 26 (0, 0)) ∧ Below w.heap.size w wr
theorem drop_consT {α : Type} (l : List α) (k : Nat) (y : α) (h : l[k]? = some y) : l.drop k = y :: l.drop (k + 1) := by
 obtain ⟨h1, rfl⟩ := GI.1 h; exact List.drop_eq_getElem_cons h1
theorem head_bd {a b c d : Int} {s k t : Nat} (h : headOk a b c d s k t = true) : s ≤ 16 ∧ k ≤ 8 ∧ t ≤ 8 := by
 unfold headOk at h; simp only [Bool.and_eq_true, beq_iff_eq] at h; obtain ⟨_, _, _, _, h1, h2, h3⟩ := h; rw [mn_eq] at h1 h2 h3; rw [mx_eq] at h3; omega
def BRel (L : List (List Int)) (vi : Value) : Prop := ∃ k : Nat, k ≤ L.length ∧ vi = O Y k ∧ (L.take k).all blockOk = true
theorem all_next {α : Type} (p : α → Bool) (L : List α) (k : Nat) (y : α) (hy : L[k]? = some y) (h : (L.take k).all p = true) (hp : p y = true) : (L.take (k + 1)).all p = true := by
 rw [take_next L k y hy, List.all_append, h]; simp [hp]
theorem iright_any (im : ImageD) (v : Value) (w : World) (h : ImageAt w v im) (hsm : im.small) : Calls Tryz.prog 7 #[v] w fun e w' => e = .returned (.bool im.ok) ∧ Below w.heap.size w w' := by
 obtain ⟨vs, vb, vt, rfl, H1, H2, H3⟩ := h; obtain ⟨As, cs, rfl, _, hs63, _⟩ := id H1; obtain ⟨Ab, cb, rfl, hcb, _⟩ := id H2; obtain ⟨At, ct, rfl, hct, _⟩ := id H3; replace H1 := ZZ H1; replace H2 := ZZ H2; replace H3 := ZZ H3; replace hsm := ZZ hsm; obtain ⟨hd, hhd⟩ : ∃ hd, headOk im.sw im.la im.co im.inp im.safe.length im.blocks.length im.tasks.length = hd := ⟨_, rfl⟩
 have hhd2 := hhd; unfold headOk at hhd2; have e0 : (if (100 : Int) < im.sw then (100 : Int) else im.sw) = mn im.sw 100 := rfl; have f0 : (if (0 : Int) < mn im.sw 100 then mn im.sw 100 else 0) = mx 0 (mn im.sw 100) := rfl; have e1 : (if (100 : Int) < im.la then (100 : Int) else im.la) = mn im.la 100 := rfl; have f1 : (if (1 : Int) < mn im.la 100 then mn im.la 100 else 1) = mx 1 (mn im.la 100) := rfl; have e2 : (if (100 : Int) < im.co then (100 : Int) else im.co) = mn im.co 100 := rfl; have f2 : (if (1 : Int) < mn im.co 100 then mn im.co 100 else 1) = mx 1 (mn im.co 100) := rfl; have e3 : (if (16 : Int) < im.inp then (16 : Int) else im.inp) = mn im.inp 16 := rfl; have f3 : (if (0 : Int) < mn im.inp 16 then mn im.inp 16 else 0) = mx 0 (mn im.inp 16) := rfl; have e4 : (if (16 : Int) < (im.safe.length : Int) then (16 : Int) else (im.safe.length : Int)) = mn (im.safe.length : Int) 16 := rfl; have g4 : (if 16 < im.safe.length then (16 : Int) else (im.safe.length : Int)) = mn (im.safe.length : Int) 16 := by unfold mn; congr 1; simp; omega
 have e5 : (if (8 : Int) < (im.blocks.length : Int) then (8 : Int) else (im.blocks.length : Int)) = mn (im.blocks.length : Int) 8 := rfl; have g5 : (if 8 < im.blocks.length then (8 : Int) else (im.blocks.length : Int)) = mn (im.blocks.length : Int) 8 := by unfold mn; congr 1; simp; omega
 have e6 : (if (8 : Int) < (im.tasks.length : Int) then (8 : Int) else (im.tasks.length : Int)) = mn (im.tasks.length : Int) 8 := rfl; have g6 : (if 8 < im.tasks.length then (8 : Int) else (im.tasks.length : Int)) = mn (im.tasks.length : Int) 8 := by unfold mn; congr 1; simp; omega
 have f6 : (if (1 : Int) < mn (im.tasks.length : Int) 8 then mn (im.tasks.length : Int) 8 else 1) = mx 1 (mn (im.tasks.length : Int) 8) := rfl; generalize mx 0 (mn im.sw 100) = m0 at *; generalize mn im.sw 100 = n0 at *; generalize mx 1 (mn im.la 100) = m1 at *; generalize mn im.la 100 = n1 at *; generalize mx 1 (mn im.co 100) = m2 at *; generalize mn im.co 100 = n2 at *; generalize mx 0 (mn im.inp 16) = m3 at *; generalize mn im.inp 16 = n3 at *; generalize mn (im.safe.length : Int) 16 = n4 at *; generalize mn (im.blocks.length : Int) 8 = n5 at *; generalize mx 1 (mn (im.tasks.length : Int) 8) = m6 at *; generalize mn (im.tasks.length : Int) 8 = n6 at *; replace hhd := ZZ hhd; have hB3 := ZZ ((((BR w.heap.size w).alloc (NR _) (.cells #[O Y im.sw, O Y im.la, O Y im.co, O Y im.inp, .slice As im.safe.length cs, .slice Ab im.blocks.length cb, .slice At im.tasks.length ct] 26)).alloc (by simp) (.cells #[O Y im.sw, O Y im.la, O Y im.co, O Y im.inp, O Y (im.safe.length : Int), O Y (im.blocks.length : Int), O Y (im.tasks.length : Int)] 67)).alloc (by simp; omega) (.cells #[O Y m0, O Y m1, O Y m2, O Y m3, O Y n4, O Y n5, O Y m6] 67)); have hbI : ((((w.alloc (.cells #[O Y im.sw, O Y im.la, O Y im.co, O Y im.inp, .slice As im.safe.length cs, .slice Ab im.blocks.length cb, .slice At im.tasks.length ct] 26)).alloc (.cells #[O Y im.sw, O Y im.la, O Y im.co, O Y im.inp, O Y (im.safe.length : Int), O Y (im.blocks.length : Int), O Y (im.tasks.length : Int)] 67)).alloc (.cells #[O Y m0, O Y m1, O Y m2, O Y m3, O Y n4, O Y n5, O Y m6] 67)).heap[w.heap.size]? = some (.cells #[O Y im.sw, O Y im.la, O Y im.co, O Y im.inp, .slice As im.safe.length cs, .slice Ab im.blocks.length cb, .slice At im.tasks.length ct] 26 (0, 0))) := (Below.heap_alloc _ _ _ (by simp; omega)).trans ((Below.heap_alloc _ _ _ (by simp)).trans (heap_alloc_last w _)); cases hd with
 | false =>
  have hr := ZZ (show im.ok = false by unfold ImageD.ok; rw [hhd.out]; rfl); clear hbI; go_enter Tryz.func7, Tryz.ntmps7; go_wp2_with fail; go_ret; exact ⟨by rw [hr.out]; rfl, hB3.out⟩
 | true =>
  obtain ⟨q1, q2, q3⟩ := head_bd hhd.out; replace q1 := ZZ q1; replace q2 := ZZ q2; replace q3 := ZZ q3; have hr : im.ok = (im.blocks.all blockOk && tasksOk im.blocks.length im.safe.length [] im.tasks) := by unfold ImageD.ok; rw [hhd.out]; rfl
  have hr0 := ZZ hr; clear hr; replace hbI := ZZ hbI; simp only [Bool.and_eq_true, beq_iff_eq] at hhd2; obtain ⟨k0, k1, k2, k3, k4, k5, k6⟩ := hhd2; have d0 := beq_iff_eq.mpr k0; have d1 := beq_iff_eq.mpr k1; have d2 := beq_iff_eq.mpr k2; have d3 := beq_iff_eq.mpr k3; have d4 := beq_iff_eq.mpr k4; have d5 := beq_iff_eq.mpr k5; have d6 := beq_iff_eq.mpr k6; clear k0 k1 k2 k3 k4 k5 k6; go_enter Tryz.func7, Tryz.ntmps7; go_wp2_with fail; generalize ((w.alloc (.cells #[O Y im.sw, O Y im.la, O Y im.co, O Y im.inp, .slice As im.safe.length cs, .slice Ab im.blocks.length cb, .slice At im.tasks.length ct] 26)).alloc (.cells #[O Y im.sw, O Y im.la, O Y im.co, O Y im.inp, O Y (im.safe.length : Int), O Y (im.blocks.length : Int), O Y (im.tasks.length : Int)] 67)).alloc (.cells #[O Y m0, O Y m1, O Y m2, O Y m3, O Y n4, O Y n5, O Y m6] 67) = W3 at *; clear d0 d1 d2 d3 d4 d5 d6 e0 e1 e2 e3 e4 e5 e6 g4 g5 g6 f0 f1 f2 f3 f6; go_loop [6, 63] (fun _ vi => BRel im.blocks vi) (fun _ vi => im.blocks.length - (intOf vi).toNat); case atStart => exact ⟨0, Nat.zero_le _, rfl, rfl⟩
  case round =>
   obtain ⟨k, hk, rfl, hall⟩ := hrel; have c6 : W3.cell? ⟨w.heap.size, 6, none⟩ = some (.slice At im.tasks.length ct) := (blk_cell hbI.out 6).trans rfl; by_cases hkn : k < im.blocks.length
   · have hkn' : (k : Int) < (im.blocks.length : Int) := Int.ofNat_lt.2 hkn; have tk : decide (im.blocks.length ≤ k) = false := decide_eq_false (Nat.not_le.2 hkn); have hk9 : k < 8 := by have := q2.out; omega
     obtain ⟨y, hy⟩ : ∃ y, im.blocks[k]? = some y := ⟨im.blocks[k], GE hkn⟩
     obtain ⟨A', c', e', hc', hrow⟩ := RowsAt.step H2.out hB3.out; injection e' with e1 e2 e3
     subst e1; clear e2 e3; obtain ⟨ad, u, rfl, hcell, hu⟩ := hrow k y hy; obtain ⟨Au, cu, rfl, _, hyl, _⟩ := hu; have hnext := all_next blockOk im.blocks k y hy; have hbad : blockOk y = false → im.blocks.all blockOk = false := fun hb => Bool.eq_false_iff.2 (fun h => by have := List.all_eq_true.1 h y (LM hy); rw [hb] at this; cases this); have hkn3 := ZZ hkn; clear hy hkn hk hrow; by_cases h0 : y.length = 0
     · have d0 : ((y.length : Int) == 0) = true := by rw [h0]; rfl
       have hr := ZZ (show im.ok = false by rw [hr0.out, hbad (by unfold blockOk; rw [h0]; rfl)]; rfl); clear h0 hbad hnext; go_wp2_with fail; go_ret; exact ⟨by rw [hr.out]; rfl, hB3.out⟩
     · have d0 : ((y.length : Int) == 0) = false := beq_eq_false_iff_ne.mpr (by omega); by_cases h8 : 8 < y.length
       · have d8 : decide ((8 : Int) < (y.length : Int)) = true := decide_eq_true (by omega); have hr := ZZ (show im.ok = false by rw [hr0.out, hbad (by unfold blockOk; rw [decide_eq_false (by omega)]; exact Bool.and_false _)]; rfl); clear h0 h8 hbad hnext; go_wp2_with fail; go_ret; exact ⟨by rw [hr.out]; rfl, hB3.out⟩
       · have d8 : decide ((8 : Int) < (y.length : Int)) = false := decide_eq_false (by omega); have hn := ZZ (hnext hall (by unfold blockOk; rw [beq_eq_false_iff_ne.mpr h0, decide_eq_true (by omega)]; rfl)); clear h0 h8 hbad hnext; go_wp2_with fail; go_round; case rel => exact ⟨k + 1, hkn3.out, by go_num, hn.out⟩
         case measure => have := hkn3.out; simp [intOf]; omega
   · have e0' : ¬ ((k : Int) < (im.blocks.length : Int)) := fun h => hkn (Int.ofNat_lt.1 h); have hke : k = im.blocks.length := by omega
     rw [hke, List.take_length] at hall; have hr := ZZ (show im.ok = tasksOk im.blocks.length im.safe.length [] im.tasks by rw [hr0.out, hall]; rfl); clear hkn hk hke hall; have hlt := (ltA hbI.out); have hbI4 := ZZ ((Below.heap_alloc W3 (.cells #[.bool false, .bool false, .bool false, .bool false, .bool false, .bool false, .bool false, .bool false, .bool false, .bool false, .bool false, .bool false, .bool false, .bool false, .bool false, .bool false] 68) w.heap.size hlt).trans hbI.out); have c6 : (W3.alloc (.cells #[.bool false, .bool false, .bool false, .bool false, .bool false, .bool false, .bool false, .bool false, .bool false, .bool false, .bool false, .bool false, .bool false, .bool false, .bool false, .bool false] 68)).cell? ⟨w.heap.size, 6, none⟩ = some (.slice At im.tasks.length ct) := (blk_cell hbI4.out 6).trans rfl; have hO4 : OwnAt (W3.alloc (.cells #[.bool false, .bool false, .bool false, .bool false, .bool false, .bool false, .bool false, .bool false, .bool false, .bool false, .bool false, .bool false, .bool false, .bool false, .bool false, .bool false] 68)) W3.heap.size [] := ⟨_, heap_alloc_last W3 _, fun j hj => by
      rcases (by omega : j = 0 ∨ j = 1 ∨ j = 2 ∨ j = 3 ∨ j = 4 ∨ j = 5 ∨ j = 6 ∨ j = 7 ∨ j = 8 ∨ j = 9 ∨ j = 10 ∨ j = 11 ∨ j = 12 ∨ j = 13 ∨ j = 14 ∨ j = 15) with rfl | rfl | rfl | rfl | rfl | rfl | rfl | rfl | rfl | rfl | rfl | rfl | rfl | rfl | rfl | rfl <;> rfl⟩
     have hB4 := ZZ (hB3.out.alloc hB3.out.size (.cells #[.bool false, .bool false, .bool false, .bool false, .bool false, .bool false, .bool false, .bool false, .bool false, .bool false, .bool false, .bool false, .bool false, .bool false, .bool false, .bool false] 68)); replace hO4 := ZZ hO4; have hgw := ZZ hlt; clear hlt; go_wp2_with fail; generalize W3.heap.size = g at *; generalize W3.alloc (.cells #[.bool false, .bool false, .bool false, .bool false, .bool false, .bool false, .bool false, .bool false, .bool false, .bool false, .bool false, .bool false, .bool false, .bool false, .bool false, .bool false] 68) = W4 at *; go_loopw [79] (fun vi wr => TRel w g #[O Y im.sw, O Y im.la, O Y im.co, O Y im.inp, .slice As im.safe.length cs, .slice Ab im.blocks.length cb, .slice At im.tasks.length ct] im.blocks.length im.safe.length im.tasks vi wr) (fun vi _ => im.tasks.length - (intOf vi).toNat); case atStart => exact ⟨0, [], Nat.zero_le _, rfl, rfl, hO4.out, hbI4.out, hB4.out⟩
     case round =>
      obtain ⟨k, own, hk, rfl, hts, hO, hbIr, hBr⟩ := hrel; replace hO := ZZ hO; replace hbIr := ZZ hbIr; replace hBr := ZZ hBr; clear c6; by_cases hkn : k < im.tasks.length
      · have hkn' : (k : Int) < (im.tasks.length : Int) := Int.ofNat_lt.2 hkn; have tk : decide (im.tasks.length ≤ k) = false := decide_eq_false (Nat.not_le.2 hkn); have hk9 : k < 8 := by have := q3.out; omega
        obtain ⟨t, ht⟩ : ∃ t, im.tasks[k]? = some t := ⟨im.tasks[k], GE hkn⟩
        have htm := LM ht; obtain ⟨A', c', e', hc', hrow⟩ := H3.out; injection e' with e1 e2 e3
        subst e1; clear e2 e3; obtain ⟨ad, rfl, hta⟩ := hrow k t ht; obtain ⟨vb, vo, vc, t0, t1, t2, t3, t4, t5, t6, t7, t8, t9⟩ := hta; obtain ⟨Atb, ctb, rfl, _⟩ := id t7; obtain ⟨Ato, cto, rfl, _, hol, _⟩ := id t8; obtain ⟨Atc, ctc, rfl, _⟩ := id t9; have T8 := ZZ t8; have kk := fun {q : Addr} {u : Value} (h : w.cell? q = some u) => cell_keep hBr.out (NR _) h; replace t0 := kk t0; replace t1 := kk t1; replace t2 := kk t2; replace t3 := kk t3; replace t4 := kk t4; replace t5 := kk t5; replace t6 := kk t6; replace t7 := t7.step hBr.out; replace t8 := t8.step hBr.out; replace t9 := t9.step hBr.out; clear kk; have hbT5 := ZZ (heap_alloc_last wr (.cells #[O Y t.prio, O Y t.period, O Y t.deadline, O Y t.jitter, .slice Atb t.blocks.length ctb, .slice Ato t.outs.length cto, .slice Atc t.code.length ctc] 45)); have hlt := (ltA hbIr.out); have hbI5 := ZZ ((Below.heap_alloc wr (.cells #[O Y t.prio, O Y t.period, O Y t.deadline, O Y t.jitter, .slice Atb t.blocks.length ctb, .slice Ato t.outs.length cto, .slice Atc t.code.length ctc] 45) w.heap.size hlt).trans hbIr.out); have i0 : (wr.alloc (.cells #[O Y t.prio, O Y t.period, O Y t.deadline, O Y t.jitter, .slice Atb t.blocks.length ctb, .slice Ato t.outs.length cto, .slice Atc t.code.length ctc] 45)).cell? ⟨w.heap.size, 0, none⟩ = some (O Y im.sw) := (blk_cell hbI5.out 0).trans rfl; have i1 : (wr.alloc (.cells #[O Y t.prio, O Y t.period, O Y t.deadline, O Y t.jitter, .slice Atb t.blocks.length ctb, .slice Ato t.outs.length cto, .slice Atc t.code.length ctc] 45)).cell? ⟨w.heap.size, 1, none⟩ = some (O Y im.la) := (blk_cell hbI5.out 1).trans rfl; have i2 : (wr.alloc (.cells #[O Y t.prio, O Y t.period, O Y t.deadline, O Y t.jitter, .slice Atb t.blocks.length ctb, .slice Ato t.outs.length cto, .slice Atc t.code.length ctc] 45)).cell? ⟨w.heap.size, 2, none⟩ = some (O Y im.co) := (blk_cell hbI5.out 2).trans rfl; have i3 : (wr.alloc (.cells #[O Y t.prio, O Y t.period, O Y t.deadline, O Y t.jitter, .slice Atb t.blocks.length ctb, .slice Ato t.outs.length cto, .slice Atc t.code.length ctc] 45)).cell? ⟨w.heap.size, 3, none⟩ = some (O Y im.inp) := (blk_cell hbI5.out 3).trans rfl; have i4 : (wr.alloc (.cells #[O Y t.prio, O Y t.period, O Y t.deadline, O Y t.jitter, .slice Atb t.blocks.length ctb, .slice Ato t.outs.length cto, .slice Atc t.code.length ctc] 45)).cell? ⟨w.heap.size, 4, none⟩ = some (.slice As im.safe.length cs) := (blk_cell hbI5.out 4).trans rfl; have i5 : (wr.alloc (.cells #[O Y t.prio, O Y t.period, O Y t.deadline, O Y t.jitter, .slice Atb t.blocks.length ctb, .slice Ato t.outs.length cto, .slice Atc t.code.length ctc] 45)).cell? ⟨w.heap.size, 5, none⟩ = some (.slice Ab im.blocks.length cb) := (blk_cell hbI5.out 5).trans rfl; have i6 : (wr.alloc (.cells #[O Y t.prio, O Y t.period, O Y t.deadline, O Y t.jitter, .slice Atb t.blocks.length ctb, .slice Ato t.outs.length cto, .slice Atc t.code.length ctc] 45)).cell? ⟨w.heap.size, 6, none⟩ = some (.slice (some ad) im.tasks.length ct) := (blk_cell hbI5.out 6).trans rfl; have al := (BR wr.heap.size wr).alloc (NR _) (.cells #[O Y t.prio, O Y t.period, O Y t.deadline, O Y t.jitter, .slice Atb t.blocks.length ctb, .slice Ato t.outs.length cto, .slice Atc t.code.length ctc] 45); have N1 := ZZ (task_any t.prio t.period t.deadline t.jitter Atb Ato Atc ctb cto ctc t.blocks t.outs t.code im.sw im.la im.co im.inp As Ab im.safe.length im.blocks.length cs cb (.slice (some ad) im.tasks.length ct) (wr.alloc (.cells #[O Y t.prio, O Y t.period, O Y t.deadline, O Y t.jitter, .slice Atb t.blocks.length ctb, .slice Ato t.outs.length cto, .slice Atc t.code.length ctc] 45)) (t7.step al) (t8.step al) (t9.step al) (hsm.out t htm)); have hB5 := ZZ (hBr.out.alloc hBr.out.size (.cells #[O Y t.prio, O Y t.period, O Y t.deadline, O Y t.jitter, .slice Atb t.blocks.length ctb, .slice Ato t.outs.length cto, .slice Atc t.code.length ctc] 45)); have hO5 := ZZ (hO.out.keep al hO.out.lt); rw [drop_consT im.tasks k t ht, tasksOk] at hts; have hkn3 := ZZ hkn; clear ht htm hkn hk hrow t7 t8 t9 al hlt; go_wp2_with fail; refine N1.out.mono ?_; rintro e w5 ⟨rfl, hb5⟩; generalize hW : wr.alloc (.cells #[O Y t.prio, O Y t.period, O Y t.deadline, O Y t.jitter, .slice Atb t.blocks.length ctb, .slice Ato t.outs.length cto, .slice Atc t.code.length ctc] 45) = W5 at *; have u5 : w5.cell? ⟨wr.heap.size, 5, none⟩ = some (.slice Ato t.outs.length cto) := cell_keep hb5 (NR _) ((blk_cell hbT5.out 5).trans rfl); have hO6 := ZZ (hO5.out.keep hb5 hO5.out.lt); have hbI6 := ZZ ((hb5.block w.heap.size (ltA hbI5.out)).trans hbI5.out); have hB6 := ZZ (hB5.out.trans (hb5.mono hB5.out.size)); clear hb5 hO5 hbI5 hB5 hbT5 N1 i0 i1 i2 i3 i4 i5 i6 hW W5; cases hok : TaskD.ok t im.blocks.length im.safe.length
        · rw [if_neg (by rw [show t.ok im.blocks.length im.safe.length = false from hok]; decide)] at hts; have hr2 := ZZ (show im.ok = false by rw [hr.out, hts]); clear hts hok; go_wp2_with fail; go_ret; exact ⟨by rw [hr2.out]; rfl, hB6.out⟩
        · rw [if_pos hok] at hts; have hob := ZZ (ok_outs hok); replace hts := ZZ hts; clear hok; go_wp2_with fail; go_loopw [90] (fun vi wr => ORel w g #[O Y im.sw, O Y im.la, O Y im.co, O Y im.inp, .slice As im.safe.length cs, .slice Ab im.blocks.length cb, .slice (some ad) im.tasks.length ct] own t.outs vi wr) (fun vi _ => t.outs.length - (intOf vi).toNat); case atStart => exact ⟨0, own, Nat.zero_le _, rfl, rfl, hO6.out, hbI6.out, hB6.out⟩
          case round =>
           obtain ⟨m, own2, hm, rfl, hto, hO2, hbI2, hB2⟩ := hrel; replace hbI2 := ZZ hbI2; replace hB2 := ZZ hB2; clear u5 t0 t1 t2 t3 t4 t5 t6; by_cases hmn : m < t.outs.length
           · have hmn' : (m : Int) < (t.outs.length : Int) := Int.ofNat_lt.2 hmn; have tm : decide (t.outs.length ≤ m) = false := decide_eq_false (Nat.not_le.2 hmn); obtain ⟨o, ho⟩ : ∃ o, t.outs[m]? = some o := ⟨t.outs[m], GE hmn⟩
             obtain ⟨hob1, hob2⟩ := hob.out o (LM ho); obtain ⟨ado, rfl, hcell⟩ := IntsAt.at (T8.out.step hB2.out) m o ho; rw [drop_consT t.outs m o ho, takeOuts] at hto; obtain ⟨n, rfl⟩ := Int.eq_ofNat_of_zero_le hob1; have hn16 : n < 16 := by have := q1.out; omega
             have oc := hO2.cell n hn16; have hm9 : (m : Int) < 9223372036854775807 := by omega
             have hmn3 := ZZ hmn; replace hO2 := ZZ hO2; clear ho hmn hm hob1 hob2; by_cases hmem : (n : Int) ∈ own2
             · rw [decide_eq_true hmem] at oc; rw [if_pos hmem] at hto; have hr2 := ZZ (show im.ok = false by rw [hr.out, hts.out, hto]); clear hto hmem; go_wp2_with fail; go_ret; exact ⟨by rw [hr2.out]; rfl, hB2.out⟩
             · rw [decide_eq_false hmem] at oc; rw [if_neg hmem] at hto; have hfr := hO2.out.fr n; replace hto := ZZ hto; clear hmem; go_wp2_with fail; have hgw' := hgw.out; have hm3 := hmn3.out; exact ⟨⟨m + 1, (n : Int) :: own2, hm3, by go_num, hto.out, hO2.out.put n hn16, (BH _ ⟨g, n, none⟩ _ w.heap.size (by show w.heap.size ≠ g; omega)).trans hbI2.out, hB2.out.setCell (p := ⟨g, n, none⟩) (by show w.heap.size ≤ g; omega) _⟩, by simp [intOf]; omega⟩
           · have e0'' : ¬ ((m : Int) < (t.outs.length : Int)) := fun h => hmn (Int.ofNat_lt.1 h); have hme : m = t.outs.length := by omega
             rw [hme, List.drop_length, takeOuts] at hto; have hts2 := hts.out; rw [hto] at hts2; replace hts2 := ZZ hts2; replace hO2 := ZZ hO2; clear hmn hm hme hto hts; go_wp2_with fail; exact ⟨⟨k + 1, own2, hkn3.out, by go_num, hts2.out, hO2.out, hbI2.out, hB2.out⟩, by have := hkn3.out; simp [intOf]; omega⟩
      · have e0' : ¬ ((k : Int) < (im.tasks.length : Int)) := fun h => hkn (Int.ofNat_lt.1 h); have hke : k = im.tasks.length := by omega
        rw [hke, List.drop_length, tasksOk] at hts; have hr2 := ZZ (show im.ok = true by rw [hr.out, hts]); clear hkn hk hke hts; go_wp2_with fail; go_ret; exact ⟨by rw [hr2.out]; rfl, hBr.out⟩
end
end Go.Proofs.YtoopeamoejmjeaaGreat.Tp
namespace Go.Proofs.YtoopeamoejmjeaaGreat
section
theorem least {p : Nat → Prop} (n : Nat) (h : p n) : ∃ m, p m ∧ ∀ j, p j → m ≤ j := by
 induction n using Nat.strongRecOn with
 | _ n ih =>
  by_cases hx : ∃ j, j < n ∧ p j
  · obtain ⟨j, hj, hp⟩ := hx; exact ih j hj hp
  · refine ⟨n, h, fun j hj => ?_⟩; rcases Nat.lt_or_ge j n with hlt | hge
    · exact absurd ⟨j, hlt, hj⟩ hx
    · exact hge
open Classical in
noncomputable def rounds (I : Nat → Act → World → Prop) (a : Act) (w : World) : Nat := if h : ∃ n, I n a w then Classical.choose (least (p := fun n => I n a w) (Classical.choose h) (Classical.choose_spec h)) else 0
theorem rounds_spec {I : Nat → Act → World → Prop} {a : Act} {w : World} (h : ∃ n, I n a w) : I (rounds I a w) a w ∧ ∀ j, I j a w → rounds I a w ≤ j := by
 unfold rounds; rw [dif_pos h]; exact Classical.choose_spec (least (p := fun n => I n a w) (Classical.choose h) (Classical.choose_spec h))
theorem wp_scope_ghost {P : Program} {a : Act} {w : World} {Q : Exit → Act → World → Prop} {c rest : Code} (l : Nat) (I : Nat → Act → World → Prop) (hf : findLabel c l = some rest)
 (first : c.wp P (Exit.jump l (fun a' w' => ∃ n, I n a' w') Q) a w)
 (pass : ∀ n a w, I n a w → rest.wp P (Exit.jump l (fun a' w' => ∃ m, m < n ∧ I m a' w') Q) a w) : (Code.scope c).wp P Q a w := by
 refine wp_scope_jumps l (fun a' w' => ∃ n, I n a' w') (rounds I) hf first ?_
 intro a w h; obtain ⟨h1, _⟩ := rounds_spec h; refine Code.wp_mono ?_ (pass _ a w h1); intro e a' w' hq; cases e with
 | goto l' =>
  obtain ⟨hl, m, hm, hI⟩ := hq; exact ⟨hl, ⟨m, hI⟩, Nat.lt_of_le_of_lt ((rounds_spec ⟨m, hI⟩).2 m hI) hm⟩
 | _ => exact hq
theorem wp_scope_ghost2 {P : Program} {a : Act} {w : World} {Q : Exit → Act → World → Prop} {c rest : Code} (l : Nat) (I : Nat → Act → World → Prop) (hf : findLabel c l = some (Code.skip.seq rest))
 (pass : ∀ n a w, I n a w → rest.wp P (Exit.jump l (fun a' w' => ∃ m, m < n ∧ I m a' w') Q) a w)
 (first : (∀ n a w, I n a w → rest.wp P (Exit.jump l (fun a' w' => ∃ n, I n a' w') Q) a w) → c.wp P (Exit.jump l (fun a' w' => ∃ n, I n a' w') Q) a w) : (Code.scope c).wp P Q a w := by
 refine wp_scope_ghost l I hf (first ?_) (fun n a w h => wp_seq (wp_skip (pass n a w h))); intro n a w h; refine Code.wp_mono ?_ (pass n a w h); intro e a' w' hq; cases e with
 | goto l' =>
  obtain ⟨hl, m, _, hI⟩ := hq; exact ⟨hl, m, hI⟩
 | _ => exact hq
end
end Go.Proofs.YtoopeamoejmjeaaGreat
namespace Go.Proofs.YtoopeamoejmjeaaGreat.Tp
open RowKit YtoopeamoejmjeaaGreatW.PrintWords YtoopeamoejmjeaaGreatW.PrintLast YtoopeamoejmjeaaGreatW.PrintMore Tm
theorem xor_comm64 (a b : Int) : bits .xor .i64 a b = bits .xor .i64 b a := by
 show IntKind.i64.wrap ((BitVec.ofInt 64 a ^^^ BitVec.ofInt 64 b).toNat : Int) = IntKind.i64.wrap ((BitVec.ofInt 64 b ^^^ BitVec.ofInt 64 a).toNat : Int); rw [BitVec.xor_comm]
theorem and_one (x : Nat) (h : x < 18446744073709551616) : bits .and .u64 (x : Int) 1 = ((x % 2 : Nat) : Int) := by
 have := u64_and_nat x 1 h (by decide); rw [Nat.and_one_is_mod] at this; exact this
theorem xor_zero64 (x : Nat) (h : x < 9223372036854775808) : bits .xor .i64 (x : Int) 0 = (x : Int) := by
 show IntKind.i64.wrap ((BitVec.ofInt 64 (x : Int) ^^^ BitVec.ofInt 64 0).toNat : Int) = _; rw [show BitVec.ofInt 64 0 = 0#64 from rfl, BitVec.xor_zero, ofInt_u64 x (by omega)]; simp [IntKind.wrap, IntKind.bits, IntKind.signed]; omega
theorem back_any (n : Int) (w : World) (h : Sm n) : Calls Tryz.prog 155 #[.int .u64 (zig n)] w fun e w' => e = .returned (O Y n) ∧ w' = w := by
 obtain ⟨h1, h2⟩ := h; go_enter Tryz.func155, Tryz.ntmps155; by_cases h0 : 0 ≤ n
 · have hz : (zig n : Int) = 2 * n := by unfold zig; rw [if_pos h0]; omega
   rw [hz]; obtain ⟨m, rfl⟩ := Int.eq_ofNat_of_zero_le h0; have e1 : bits .and .u64 (2 * (m : Int)) 1 = 0 := by
    have := and_one (2 * m) (by omega); rw [show ((2 * m : Nat) : Int) = 2 * (m : Int) by omega] at this; rw [this]; omega
   have e2 : bits .xor .i64 (m : Int) 0 = (m : Int) := xor_zero64 m (by omega); have e3 : wrap64 0 = 0 := wrapIn (by omega); go_wp2_with fail; go_ret; exact ⟨rfl, rfl⟩
 · have hz : (zig n : Int) = -2 * n - 1 := by unfold zig; rw [if_neg h0]; omega
   rw [hz]; obtain ⟨m, hm⟩ : ∃ m : Nat, n = -(m : Int) - 1 := ⟨(-n - 1).toNat, by omega⟩
   subst hm; rw [show -2 * (-(m : Int) - 1) - 1 = ((2 * m + 1 : Nat) : Int) by omega]; have e0 : ((2 * m + 1 : Nat) : Int) / 2 = (m : Int) := by omega
   have e1 : bits .and .u64 ((2 * m + 1 : Nat) : Int) 1 = 1 := by
    rw [and_one (2 * m + 1) (by omega)]; omega
   have e2 : bits .xor .i64 (m : Int) (-1) = -(m : Int) - 1 := by
    rw [xor_comm64, i64_not m (by omega)]; omega
   have e3 : wrap64 1 = 1 := wrapIn (by omega); have e4 : wrap64 (-1) = -1 := wrapIn (by omega); generalize hx : ((2 * m + 1 : Nat) : Int) = x at *; have hx2 : 0 ≤ x ∧ x < 18446744073709551616 := by omega
   clear hx; go_wp2_with fail; go_ret; exact ⟨rfl, rfl⟩
def NumAt (s : ByteArray) (at_ : Nat) (z : Nat) : Prop := ∀ (i : Nat) (b : Int), (putU z)[i]? = some b → ∃ h : at_ + i < s.size, ((s[at_ + i]'h).toNat : Int) = b
theorem putU_pos (q : Nat) : 0 < (putU q).length := by rw [putU]; split <;> simp
theorem putU_at {l : List Int} {q i : Nat} (h : l.drop i = putU q) : l[i]? = some (if q < 128 then (q : Int) else ((q % 128 + 128 : Nat) : Int)) := by
 have h1 : (l.drop i)[0]? = l[i]? := by rw [List.getElem?_drop]; rfl
 rw [← h1, h, putU]; split <;> rfl
theorem putU_last {l : List Int} {q i : Nat} (h : l.drop i = putU q) : (q < 128 → l.length = i + 1) ∧ (¬ q < 128 → i + 1 < l.length ∧ l.drop (i + 1) = putU (q / 128)) := by
 have hl : l.length - i = (putU q).length := by rw [← h, List.length_drop]
 have hp := putU_pos q; constructor
 · intro hq; rw [putU, dif_pos hq] at hl; simp at hl; omega
 · intro hq; have h2 : l.drop (i + 1) = (l.drop i).drop 1 := by rw [List.drop_drop]
   have hq2 := putU_pos (q / 128); rw [putU, dif_neg hq] at hl h; rw [List.length_cons] at hl; exact ⟨by omega, by rw [h2, h]; rfl⟩
theorem or_step (z i c q : Nat) (hz : z < 18446744073709551616) (hq : z / 128 ^ i = q) (hc : c % 128 = q % 128) : bits .or .u64 ((z % 128 ^ i : Nat) : Int) (IntKind.u64.wrap ((c : Int) % 128 * 2 ^ (i * 7))) = ((z % 128 ^ (i + 1) : Nat) : Int) := by
 have hp : (128 : Nat) ^ i = 2 ^ (i * 7) := by rw [show (128 : Nat) = 2 ^ 7 from rfl, ← Nat.pow_mul, Nat.mul_comm]
 have hpos : 0 < 128 ^ i := Nat.pow_pos (by decide); have e1 : (c : Int) % 128 * 2 ^ (i * 7) = ((q % 128 * 128 ^ i : Nat) : Int) := by
  rw [← hc, hp]; simp
 have h2 : q % 128 * 128 ^ i ≤ z := by
  rw [← hq]; exact Nat.le_trans (Nat.mul_le_mul_right _ (Nat.mod_le _ _)) (Nat.div_mul_le_self z (128 ^ i))
 have h3 : z % 128 ^ i ≤ z := Nat.mod_le _ _; rw [e1, IntKind.wrap_u64, Int.emod_eq_of_lt (by omega) (by omega), u64_or_nat _ _ (by omega) (by omega)]; congr 1; have h4 : z % 128 ^ i < 2 ^ (i * 7) := by rw [← hp]; exact Nat.mod_lt _ hpos
 have h5 := Nat.shiftLeft_add_eq_or_of_lt h4 (q % 128); rw [Nat.or_comm, hp, ← Nat.shiftLeft_eq, ← hp, ← h5, Nat.shiftLeft_eq, ← hp, Nat.pow_succ, Nat.mod_mul, hq, Nat.add_comm, Nat.mul_comm]
def GetRel (z : Nat) (vu vi : Value) : Prop := ∃ (i : Nat) (U : Int), i < (putU z).length ∧ vi = O Y i ∧ vu = .int .u64 U ∧ U = ((z % 128 ^ i : Nat) : Int) ∧ (putU z).drop i = putU (z / 128 ^ i) ∧ (0 < i → 1 ≤ z / 128 ^ i)
theorem get_any (s : ByteArray) (at_ : Nat) (n : Int) (w : World) (hn : Sm n) (hA : NumAt s at_ (zig n)) (hs : s.size ≤ 1000000000) : Calls Tryz.prog 136 #[.string s, O Y at_] w fun e w' => e = .returned (.tuple #[O Y n, O Y ((at_ + (putU (zig n)).length : Nat) : Int), O Y 0]) ∧ Below w.heap.size w w' := by
 have hz := zig_lt n hn; have hL : (putU (zig n)).length ≤ 10 := putU_len _ 9 (by omega); have hL0 := putU_pos (zig n); have hfit : at_ + (putU (zig n)).length ≤ s.size := by
  obtain ⟨h1, _⟩ := hA ((putU (zig n)).length - 1) _ (GE (by omega)); omega
 have hbk := fun w => ZZ (back_any n w hn); replace hbk := ZZ hbk; generalize zig n = z at *; have e0 : decide ((at_ : Int) < 0) = false := decide_eq_false (by omega); have e1 : decide ((s.size : Int) < (at_ : Int)) = false := decide_eq_false (by omega); have hbig : (at_ : Int) ≤ 1000000000 := by omega
 have e2 : decide (s.size < at_) = false := decide_eq_false (by omega); replace hA := ZZ hA; go_enter Tryz.func136, Tryz.ntmps136; go_wp2_with fail; refine wp_scope_ghost 0 (fun _ _ _ => False) rfl ?_ (fun n a w h => h.elim); go_wp2_with fail; refine wp_label ?_; refine (by assumption : ∀ (a : Act) (w : World), _ → _) _ _ ?_; go_wp2_with fail; go_loop [7, 24] (fun vu vi => GetRel z vu vi) (fun _ vi => 10 - (intOf vi).toNat); case atStart => exact ⟨0, 0, hL0, rfl, rfl, by simp [Nat.mod_one], by simp, fun h => absurd h (Nat.lt_irrefl 0)⟩
 case round =>
  obtain ⟨i, U, hi, rfl, rfl, hU, hd, h1⟩ := hrel; obtain ⟨q, hq⟩ : ∃ q, z / 128 ^ i = q := ⟨_, rfl⟩
  rw [hq] at hd h1; have hi10 : i < 10 := by omega
  obtain ⟨hsi, hcb⟩ := hA.out i _ (putU_at hd); obtain ⟨p1, p2⟩ := putU_last hd; obtain ⟨c, hcn⟩ : ∃ c : Nat, (s[at_ + i]'hsi).toNat = c := ⟨_, rfl⟩
  rw [hcn] at hcb; have hor := or_step z i c q hz hq (by split at hcb <;> omega); rw [← hU] at hor; have hq9 : i = 9 → q < 2 := by
   intro h9; rw [← hq, h9, Nat.div_lt_iff_lt_mul (by decide)]; omega
  obtain ⟨U2, hU2⟩ : ∃ U2 : Int, ((z % 128 ^ (i + 1) : Nat) : Int) = U2 := ⟨_, rfl⟩
  rw [hU2] at hor; have hle : ((i : Int) == (s.size : Int) - (at_ : Int)) = false := beq_eq_false_iff_ne.mpr (by omega); have hsi2 : (at_ : Int) + (i : Int) < (s.size : Int) := by omega
  have hi3 := ZZ hi; have hU3 := ZZ hU2; have hq3 := ZZ hq; clear hd hi hU hU2 hq; by_cases hq1 : q < 128
  · rw [if_pos hq1] at hcb; have hcq : c = q := by omega
    have hze : U2 = (z : Int) := by
     rw [← hU3.out]; have h2 : z < 128 ^ (i + 1) := by
      rw [Nat.pow_succ, Nat.mul_comm]; exact (Nat.div_lt_iff_lt_mul (Nat.pow_pos (by decide))).1 (by rw [hq3.out]; exact hq1)
     rw [Nat.mod_eq_of_lt h2]
    have d1 : decide ((128 : Int) ≤ (c : Int)) = false := decide_eq_false (by omega); have hlen := ZZ (p1 hq1); rw [hze] at hor; have hU4 := ZZ hU3.out; clear hU3 hq3 p1 p2 hcb; have hret : at_ + i + 1 = at_ + (putU z).length := by have := hlen.out; omega
    have hb1 : (decide ((0 : Int) < (i : Int)) = false ∨ ((c : Int) == 0) = false) := by
     by_cases hi0 : i = 0
     · exact .inl (decide_eq_false (by omega))
     · exact .inr (beq_eq_false_iff_ne.mpr (by have := h1 (by omega); omega))
    have hb2 : ((i : Int) == 9) = false ∨ decide ((1 : Int) < (c : Int)) = false := by
     by_cases hi9 : i = 9
     · exact .inr (decide_eq_false (by have := hq9 hi9; omega))
     · exact .inl (beq_eq_false_iff_ne.mpr (by omega))
    replace hret := ZZ hret; clear h1 hq9 hcq hq1; have fin : ∀ (w1 : World), (Calls Tryz.prog 155 #[Value.int IntKind.u64 z] w1 fun e w' => e = .returned (O Y n) ∧ w' = w1) := fun w1 => (hbk.out w1).out; replace fin := ZZ fin; by_cases hi0 : i = 0
    · have n1 : ¬ 0 < i := by omega
      have n2 : ¬ i = 9 := by omega
      have b1 : decide ((0 : Int) < (i : Int)) = false := decide_eq_false (by omega); have b3 : ((i : Int) == 9) = false := beq_eq_false_iff_ne.mpr (by omega); have hi0' := ZZ hi0; clear hb1 hb2 hi0; go_wp2_with fail; refine (fin.out _).mono ?_; rintro e w1 ⟨rfl, rfl⟩; go_wp2_with fail; simp only [Exit.jump]; go_ret3; exact ⟨by have := hret.out; rw [show ((at_ + (putU z).length : Nat) : Int) = (at_ : Int) + (i : Int) + 1 by omega]; rfl, BR _ _⟩
    · have n1 : 0 < i := by omega
      have b1 : decide ((0 : Int) < (i : Int)) = true := decide_eq_true (by omega); have b2 : ((c : Int) == 0) = false := by
       rcases hb1 with h | h
       · rw [b1] at h; cases h
       · exact h
      have n3 : ¬ c = 0 := by intro h; subst h; cases b2
      by_cases hi9 : i = 9
      · have b3 : ((i : Int) == 9) = true := beq_iff_eq.mpr (by omega); have b4 : decide ((1 : Int) < (c : Int)) = false := by
         rcases hb2 with h | h
         · rw [b3] at h; cases h
         · exact h
        have n4 : ¬ 1 < c := by have := of_decide_eq_false b4; omega
        have hi9' := ZZ hi9; have n2 : decide (i = 9) = true := decide_eq_true hi9; clear hb1 hb2 hi0 hi9; go_wp2_with fail; refine (fin.out _).mono ?_; rintro e w1 ⟨rfl, rfl⟩; go_wp2_with fail; simp only [Exit.jump]; go_ret3; exact ⟨by have := hret.out; rw [show ((at_ + (putU z).length : Nat) : Int) = (at_ : Int) + (i : Int) + 1 by omega]; rfl, BR _ _⟩
      · have b3 : ((i : Int) == 9) = false := beq_eq_false_iff_ne.mpr (by omega); clear hb1 hb2 hi0; go_wp2_with fail; refine (fin.out _).mono ?_; rintro e w1 ⟨rfl, rfl⟩; go_wp2_with fail; simp only [Exit.jump]; go_ret3; exact ⟨by have := hret.out; rw [show ((at_ + (putU z).length : Nat) : Int) = (at_ : Int) + (i : Int) + 1 by omega]; rfl, BR _ _⟩
  · rw [if_neg hq1] at hcb; have d1 : decide ((128 : Int) ≤ (c : Int)) = true := decide_eq_true (by omega); have hn2 := ZZ (p2 hq1); have hq4 := ZZ hq1; clear p1 p2 hq1 hcb hq9 h1; go_wp2_with fail; have e4 : z / 128 ^ (i + 1) = q / 128 := by rw [Nat.pow_succ, ← Nat.div_div_eq_div_mul, hq3.out]
    refine ⟨?_, ?_⟩
    · exact ⟨i + 1, U2, hn2.out.1, by go_num, rfl, hU3.out.symm, by rw [e4]; exact hn2.out.2, fun _ => by rw [e4]; have := hq4.out; omega⟩
    · simp [intOf]; omega
theorem getElem_append_sub {a b : ByteArray} (i : Nat) (h : i < b.size) : ∃ h2 : a.size + i < (a ++ b).size, (a ++ b)[a.size + i]'h2 = b[i] := by
 have h2 : a.size + i < (a ++ b).size := by rw [ByteArray.size_append]; omega
 refine ⟨h2, ?_⟩; rw [ByteArray.getElem_append_right (by omega)]; congr 1; omega
theorem getElem_append_pre {a b : ByteArray} (i : Nat) (h : i < a.size) : ∃ h2 : i < (a ++ b).size, (a ++ b)[i]'h2 = a[i] := by
 have h2 : i < (a ++ b).size := by rw [ByteArray.size_append]; omega
 exact ⟨h2, ByteArray.getElem_append_left h⟩
def Sub (s : ByteArray) (at_ : Nat) (b : ByteArray) : Prop := at_ + b.size ≤ s.size ∧ ∀ (i : Nat) (h : i < b.size) (h2 : at_ + i < s.size), s[at_ + i]'h2 = b[i]
theorem Sub.left {s : ByteArray} {k : Nat} {a b : ByteArray} (h : Sub s k (a ++ b)) : Sub s k a := by
 obtain ⟨h1, h2⟩ := h; rw [ByteArray.size_append] at h1; refine ⟨by omega, fun i hi hs => ?_⟩; obtain ⟨h3, h4⟩ := getElem_append_pre (b := b) i hi; rw [h2 i h3 hs, h4]
theorem Sub.right {s : ByteArray} {k : Nat} {a b : ByteArray} (h : Sub s k (a ++ b)) : Sub s (k + a.size) b := by
 obtain ⟨h1, h2⟩ := h; rw [ByteArray.size_append] at h1; refine ⟨by omega, fun i hi hs => ?_⟩; obtain ⟨h3, h4⟩ := getElem_append_sub (a := a) i hi; rw [← h4, ← h2 (a.size + i) h3 (by omega)]; congr 1; omega
theorem Sub.all (a b c : ByteArray) : Sub (a ++ b ++ c) a.size b := by
 refine ⟨by simp only [ByteArray.size_append]; omega, fun i hi hs => ?_⟩; obtain ⟨h1, h2⟩ := getElem_append_sub (a := a) i hi; obtain ⟨h3, h4⟩ := getElem_append_pre (a := a ++ b) (b := c) (a.size + i) h1; rw [h4, h2]
theorem catS_pre (s : ByteArray) (l : List Int) : catS s l = s ++ catS BE l := by
 suffices H : ∀ (l : List Int) (a b : ByteArray), catS (a ++ b) l = a ++ catS b l by simpa using H l s BE
 intro l; induction l with
 | nil => intro a b; rfl
 | cons x l ih => intro a b; show catS (a ++ b ++ putS x) l = a ++ catS (b ++ putS x) l; rw [ByteArray.append_assoc, ih]
theorem catS_two (s : ByteArray) (a b : List Int) : catS s (a ++ b) = catS s a ++ catS BE b := by
 rw [← catS_pre]; unfold catS; rw [List.foldl_append]
theorem catS_one (x : Int) : catS BE [x] = putS x := by show BE ++ putS x = putS x; simp
theorem Sub.take {s : ByteArray} {k : Nat} {s0 : ByteArray} {l : List Int} (h : Sub s k (catS s0 l)) (j : Nat) (x : Int) (hx : l[j]? = some x) : Sub s (k + (catS s0 (l.take j)).size) (putS x) ∧ (catS s0 (l.take (j + 1))).size = (catS s0 (l.take j)).size + (putS x).size := by
 have e1 : l = l.take j ++ ([x] ++ l.drop (j + 1)) := by
  conv => lhs; rw [← List.take_append_drop j l, drop_consT l j x hx]
  rfl
 constructor
 · rw [e1, catS_two] at h; have h2 := h.right; rw [catS_two, catS_one] at h2; exact h2.left
 · rw [take_next l j x hx, catS_snoc, ByteArray.size_append]
theorem strOf_get (l : List Int) (hl : ∀ x ∈ l, 0 ≤ x ∧ x < 256) (i : Nat) (b : Int) (h : l[i]? = some b) : ∃ h2 : i < (strOfNums l).size, (((strOfNums l)[i]'h2).toNat : Int) = b := by
 have hi : i < l.length := by
  rcases Nat.lt_or_ge i l.length with h1 | h1
  · exact h1
  · rw [List.getElem?_eq_none h1] at h; cases h
 rw [GE hi] at h; injection h with h
 have hb := hl b (by rw [← h]; exact List.getElem_mem hi); refine ⟨by rw [strOfNums_size]; exact hi, ?_⟩; simp [strOfNums, ByteArray.getElem_eq_getElem_data, h]; omega
theorem putU_bd : ∀ (u : Nat) (x : Int), x ∈ putU u → 0 ≤ x ∧ x < 256 := by
 intro u; induction u using Nat.strongRecOn with
 | _ u ih =>
  intro x hx; rw [putU] at hx; split at hx
  · simp at hx; omega
  · rcases List.mem_cons.1 hx with h | h
    · omega
    · exact ih (u / 128) (by omega) x h
theorem putS_len (n : Int) : (putS n).size = (putU (zig n)).length := strOfNums_size _
theorem Sub.num {s : ByteArray} {k : Nat} {n : Int} (h : Sub s k (putS n)) : NumAt s k (zig n) := by
 intro i b hb; obtain ⟨h1, h2⟩ := strOf_get _ (putU_bd _) i b hb; obtain ⟨h3, h4⟩ := h; have h1' : i < (putS n).size := h1; have h5 : k + i < s.size := by omega
 exact ⟨h5, by rw [h4 i h1' h5]; exact h2⟩
theorem get_sub (s : ByteArray) (k : Nat) (n : Int) (w : World) (hn : Sm n) (h : Sub s k (putS n)) (hs : s.size ≤ 1000000000) : Calls Tryz.prog 136 #[.string s, O Y k] w fun e w' => e = .returned (.tuple #[O Y n, O Y ((k + (putS n).size : Nat) : Int), O Y 0]) ∧ Below w.heap.size w w' := by
 rw [putS_len]; exact get_any s k n w hn h.num hs
theorem info3T : (Tryz.prog.info? 3).map (fun i => (i.zero, i.size, i.bytes)) = some (some (O Y 0), 1, 8) := by kernel_rfl
def listS (l : List Int) : ByteArray := catS (putS l.length) l
def GlRel (w : World) (at_ : Nat) (l : List Int) (va vl vi : Value) (wr : World) : Prop := ∃ (k : Nat) (A : Option Addr) (c : Nat), k ≤ l.length ∧ vi = O Y k ∧ va = O Y ((at_ + (catS (putS l.length) (l.take k)).size : Nat) : Int) ∧ vl = .slice A k c ∧ LRow wr w.heap.size 3 1 (.slice A k c) k ((l.take k).map (O Y)) ∧ Below w.heap.size w wr
theorem getlist_any (s : ByteArray) (at_ : Nat) (l : List Int) (lim : Int) (w : World) (hl : Small l) (hlen : (l.length : Int) ≤ lim) (hl2 : l.length ≤ 10000) (h : Sub s at_ (listS l)) (hs : s.size ≤ 1000000000) : Calls Tryz.prog 133 #[.string s, O Y at_, O Y lim] w fun e w' => ∃ v, e = .returned (.tuple #[v, O Y ((at_ + (listS l).size : Nat) : Int), O Y 0]) ∧ LRow w' w.heap.size 3 1 v l.length (l.map (O Y)) ∧ Below w.heap.size w w' := by
 have h0 : Sub s at_ (putS l.length) := by unfold listS at h; rw [catS_pre] at h; exact h.left
 have hg0 := ZZ (get_sub s at_ l.length w ⟨by omega, by omega⟩ h0 hs); have hfit : at_ + (listS l).size ≤ s.size := h.1; have hgk : ∀ (k : Nat) (x : Int), l[k]? = some x → ∀ w, Calls Tryz.prog 136 #[.string s, O Y ((at_ + (catS (putS l.length) (l.take k)).size : Nat) : Int)] w fun e w' => e = .returned (.tuple #[O Y x, O Y ((at_ + (catS (putS l.length) (l.take (k + 1))).size : Nat) : Int), O Y 0]) ∧ Below w.heap.size w w' := by
  intro k x hx w; obtain ⟨h1, h2⟩ := h.take k x hx; have h3 := get_sub s _ x w (hl x (LM hx)) h1 hs; rw [h2, ← Nat.add_assoc]; exact h3
 replace hgk := ZZ hgk; have hL : listS l = catS (putS l.length) (l.take l.length) := by unfold listS; rw [List.take_length]
 rw [hL]; have hS : ∀ k, catS (putS l.length) (l.take k) = catS (putS l.length) (l.take k) := fun _ => rfl; clear h h0 hS; replace hL := ZZ hL; replace hl := ZZ hl; replace hfit := ZZ hfit; have d0 : decide (lim < 0) = false := decide_eq_false (by omega); have d1 : decide (((l.length : Nat) : Int) < 0) = false := decide_eq_false (by omega); have d2 : decide (lim < ((l.length : Nat) : Int)) = false := decide_eq_false (by omega); go_enter Tryz.func133, Tryz.ntmps133; go_wp2_with fail; refine hg0.out.mono ?_; rintro e w1 ⟨rfl, hb⟩; obtain ⟨z0, hz0⟩ : ∃ z0 : Int, ((at_ + (putS (l.length : Int)).size : Nat) : Int) = z0 := ⟨_, rfl⟩
 rw [hz0]; replace hz0 := ZZ hz0; replace hb := ZZ hb; go_wp2_with fail; go_loopw [1, 11, 36] (fun va vl vi wr => GlRel w at_ l va vl vi wr) (fun _ _ vi _ => l.length - (intOf vi).toNat); case atStart => exact ⟨0, none, 0, Nat.zero_le _, rfl, by rw [← hz0.out]; rfl, rfl, LRow.nil _ _ _ _, hb.out⟩
 case round =>
  obtain ⟨k, A, c, hk, rfl, rfl, rfl, hrow, hb2⟩ := hrel; replace hrow := ZZ hrow; replace hb2 := ZZ hb2; by_cases hd : k < l.length
  · obtain ⟨x, hx⟩ : ∃ x, l[k]? = some x := ⟨_, GE hd⟩
    have hg := ZZ (hgk.out k x hx); have b1 : ((k : Nat) : Int) < (l.length : Int) := by omega
    obtain ⟨z1, hz1⟩ : ∃ z1 : Int, ((at_ + (catS (putS (l.length : Int)) (l.take (k + 1))).size : Nat) : Int) = z1 := ⟨_, rfl⟩
    rw [hz1] at hg; replace hz1 := ZZ hz1; have hk2 := ZZ hk; replace hx := ZZ hx; clear hk; go_wp2_with fail; refine (hg.out _).mono ?_; rintro e w2 ⟨rfl, hb3⟩; have hrow2 := ZZ (LRow.step hrow.out hb3); have hb4 := ZZ (hb2.out.trans (hb3.mono hb2.out.size)); clear hb3; go_wp2_with (first | (at_builtin; refine wpList_append_one w w2 w.heap.size rfl (.tmp 48) (.tmp 50) 22 3 _ 1 8 rfl Tryz.underlying22 info3T rfl (by decide) (by decide) (.slice A k c) k ((l.take k).map (O Y)) _ rfl rfl rfl (by simp [Value.oneCell']) hrow2.out hb4.out (NR _) (by omega) ?_; rintro A1 c1 w3 hrow3 hb5 - -) | fail)
    refine ⟨⟨k + 1, A1, c1, hd, by go_num, by rw [hz1.out], rfl, ?_, hb5⟩, ?_⟩
    · rw [take_next l k x hx.out, List.map_append]; exact hrow3
    · simp [intOf]; omega
  · have hke : k = l.length := by omega
    subst hke; have b1 : ¬ (((l.length : Nat) : Int) < (l.length : Int)) := by omega
    go_wp2_with fail; go_ret3; refine ⟨_, rfl, ?_, hb2.out⟩; have := hrow.out; rw [List.take_length] at this; exact this
def RdAt (W : World) (g : Nat) (s : ByteArray) (at_ : Nat) : Prop := W.heap[g]? = some (.cells #[.string s, O Y at_, O Y 0] 210 (0, 0))
theorem RdAt.cells {W : World} {g : Nat} {s : ByteArray} {at_ : Nat} (h : RdAt W g s at_) : W.cell? ⟨g, 0, none⟩ = some (.string s) ∧ W.cell? ⟨g, 1, none⟩ = some (O Y at_) ∧ W.cell? ⟨g, 2, none⟩ = some (O Y 0) ∧ (∀ i, W.frozen? ⟨g, i, none⟩ = false) :=
 ⟨(blk_cell h 0).trans rfl, (blk_cell h 1).trans rfl, (blk_cell h 2).trans rfl, fun i => blk_frozen h i⟩
theorem RdAt.lt {W : World} {g : Nat} {s : ByteArray} {at_ : Nat} (h : RdAt W g s at_) : g < W.heap.size := ltA h
theorem RdAt.step {W W' : World} {g : Nat} {s : ByteArray} {at_ : Nat} (h : RdAt W g s at_) (hb : Below W.heap.size W W') : RdAt W' g s at_ := (hb.block g h.lt).trans h
theorem LRow.keeps {w w1 : World} {B e size n : Nat} {v : Value} {xs : List Value} {S : List Nat} (h : LRow w B e size v n xs) (hk : Keeps S w w1) (hS : ∀ k ∈ S, k < B) : LRow w1 B e size v n xs :=
 h.move (fun k hv => hk.block k (LRow.lt h k hv).1 (fun hm => by have := hS k hm; have := (LRow.lt h k hv).2.1; omega))
theorem Keeps.set2 (w : World) (g a b : Nat) (x y : Value) : Keeps [g] w ((w.setCell ⟨g, a, none⟩ x).setCell ⟨g, b, none⟩ y) := Keeps.setCell (Keeps.setCell (Keeps.refl [g] w) g a x (.inl (by simp))) g b y (.inl (by simp))
theorem RdAt.put {W : World} {g : Nat} {s : ByteArray} {at_ : Nat} (h : RdAt W g s at_) (k : Nat) : RdAt ((W.setCell ⟨g, 1, none⟩ (O Y k)).setCell ⟨g, 2, none⟩ (O Y 0)) g s k := blk_set (blk_set h 1 _) 2 _
theorem num_any (g : Nat) (s : ByteArray) (at_ : Nat) (n : Int) (hn : Sm n) (h : Sub s at_ (putS n)) (w : World) (hr : RdAt w g s at_) (hs : s.size ≤ 1000000000) : Calls Tryz.prog 96 #[.pointer (some ⟨g, 0, none⟩)] w fun e w' => e = .returned (O Y n) ∧ RdAt w' g s (at_ + (putS n).size) ∧ Keeps [g] w w' := by
 obtain ⟨c0, c1, c2, -⟩ := hr.cells; have hR := ZZ hr; clear hr; go_enter Tryz.func96, Tryz.ntmps96; go_wp2_with fail; refine st 22 (S := fun w' => w'.cell? ⟨g, 0, none⟩ = some (.string s) ∧ w'.cell? ⟨g, 1, none⟩ = some (O Y at_)) (ds := [10, 18, 21]) ⟨c0, c1⟩ (fun hHeld => ?_); refine pq 0 ?_; refine pq 1 ?_; refine pq 2 ?_; refine pq 3 ?_; refine pq 4 ?_; refine pq 6 ?_; refine pq 7 ?_; refine pq 8 ?_; refine tk 5 hHeld ?_; refine tk 9 hHeld ?_; refine rg2 10 (fun K hK => ?_); refine goes_ Tryz.func136 (by kernel_rfl) rfl #[.string s, O Y at_] (by rfl) rfl rfl (by (try simp only [MA, List.map_cons, List.map_nil]); first | done | rfl) ?_; refine (get_sub s at_ n _ hn h hs).mono ?_; rintro e w1 ⟨rfl, hb⟩; refine ⟨_, rfl, ?_⟩; have hR1 := hR.out.step ((BR _ _).drew.trans hb); have hK1 := ZZ ((Keeps.of_below ((BR w.heap.size w).drew.trans hb) [g])); obtain ⟨-, x1, x2, hfr⟩ := hR1.cells; have f1 := hfr 1; have f2 := hfr 2; have hR2 := ZZ hR1; clear hR1 hfr hb; refine hK.out _ _ ?_; clear hK K; refine nm ?_; refine pq 11 ?_; refine pq 12 ?_; refine pq 13 ?_; refine pq 14 ?_; refine pq 15 ?_; refine pq 16 ?_; refine pq 17 ?_; refine rg2 18 (fun K hK => ?_); refine skip_ (w1 := ?_) (by rfl) rfl ?_ ?_; rotate_left
 · go_simp; rfl
 refine hK.out _ _ ?_; clear hK K; refine pq 19 ?_; refine pq 20 ?_; refine rg2 21 (fun K hK => ?_); refine skip_ (w1 := ?_) (by rfl) rfl ?_ ?_; rotate_left
 · go_simp; rfl
 refine hK.out _ _ ?_; clear hK K; refine dn ?_; have hB2 := Keeps.setCell (Keeps.setCell hK1.out g 1 (O Y ((at_ + (putS n).size : Nat) : Int)) (.inl (by simp))) g 2 (O Y 0) (.inl (by simp)); go_wp2_with fail; go_ret; exact ⟨rfl, hR2.out.put _, hB2⟩
theorem list_rd (g : Nat) (s : ByteArray) (at_ : Nat) (l : List Int) (hl : Small l) (hl2 : l.length ≤ 16) (h : Sub s at_ (listS l)) (w : World) (hr : RdAt w g s at_) (hs : s.size ≤ 1000000000) : Calls Tryz.prog 97 #[.pointer (some ⟨g, 0, none⟩)] w fun e w' => ∃ v, e = .returned v ∧ LRow w' w.heap.size 3 1 v l.length (l.map (O Y)) ∧ RdAt w' g s (at_ + (listS l).size) ∧ Keeps [g] w w' := by
 obtain ⟨c0, c1, c2, -⟩ := hr.cells; have hR := ZZ hr; clear hr; go_enter Tryz.func97, Tryz.ntmps97; go_wp2_with fail; refine st 22 (S := fun w' => w'.cell? ⟨g, 0, none⟩ = some (.string s) ∧ w'.cell? ⟨g, 1, none⟩ = some (O Y at_)) (ds := [10, 18, 21]) ⟨c0, c1⟩ (fun hHeld => ?_); refine pq 0 ?_; refine pq 1 ?_; refine pq 2 ?_; refine pq 3 ?_; refine pq 4 ?_; refine pq 6 ?_; refine pq 7 ?_; refine pq 8 ?_; refine tk 5 hHeld ?_; refine tk 9 hHeld ?_; refine rg2 10 (fun K hK => ?_); refine goes_ Tryz.func133 (by kernel_rfl) rfl #[.string s, O Y at_, O Y 16] (by rfl) rfl rfl (by (try simp only [MA, List.map_cons, List.map_nil]); first | done | rfl) ?_; refine (getlist_any s at_ l 16 _ hl (by omega) (by omega) h hs).mono ?_; rintro e w1 ⟨v, rfl, hrow, hb⟩; refine ⟨_, rfl, ?_⟩; have hgl := hR.out.lt; replace hrow := ZZ hrow; have hR1 := hR.out.step ((BR _ _).drew.trans hb); have hK1 := ZZ ((Keeps.of_below ((BR w.heap.size w).drew.trans hb) [g])); obtain ⟨-, x1, x2, hfr⟩ := hR1.cells; have f1 := hfr 1; have f2 := hfr 2; have hR2 := ZZ hR1; clear hR1 hfr hb; refine hK.out _ _ ?_; clear hK K; refine nm ?_; refine pq 11 ?_; refine pq 12 ?_; refine pq 13 ?_; refine pq 14 ?_; refine pq 15 ?_; refine pq 16 ?_; refine pq 17 ?_; refine rg2 18 (fun K hK => ?_); refine skip_ (w1 := ?_) (by rfl) rfl ?_ ?_; rotate_left
 · go_simp; rfl
 refine hK.out _ _ ?_; clear hK K; refine pq 19 ?_; refine pq 20 ?_; refine rg2 21 (fun K hK => ?_); refine skip_ (w1 := ?_) (by rfl) rfl ?_ ?_; rotate_left
 · go_simp; rfl
 refine hK.out _ _ ?_; clear hK K; refine dn ?_; have hB2 := Keeps.setCell (Keeps.setCell hK1.out g 1 (O Y ((at_ + (listS l).size : Nat) : Int)) (.inl (by simp))) g 2 (O Y 0) (.inl (by simp)); go_wp2_with fail; go_ret; exact ⟨_, rfl, LRow.keeps hrow.out (Keeps.set2 _ _ _ _ _ _) (by simpa using hgl), hR2.out.put _, hB2⟩
theorem idxP (g : Nat) (k : Nat) (w : World) (hk : k < 2) : (Instr.index 292 (.agg #[.pointer (some ⟨g, 1, none⟩), .pointer (some ⟨g, 2, none⟩)]) (O Y (k : Int))).run Tryz.prog w = .ok (.pointer (some ⟨g, k + 1, none⟩)) w := by
 obtain ⟨i0, hi, hz⟩ := Option.map_eq_some_iff.1 (show (Tryz.prog.info? 211).map (·.size) = some 1 by kernel_rfl); rcases (by omega : k = 0 ∨ k = 1) with rfl | rfl <;> simp [Instr.index, run_underlying Tryz.underlying292, asIntOf, asAgg, part, sizeOf, typeInfo, hi, hz, isAgg, run_underlying Tryz.underlying211]
theorem encP_cons (o a b : Int) (k : Nat) : encP o a b k = strOfNums [o] ++ (match k with
 | 0 => BE
 | 1 => if 0 < (kindOf o).args then putS a else BE
 | _ => (if 0 < (kindOf o).args then putS a else BE) ++ (if 1 < (kindOf o).args then putS b else BE)) := by
 unfold encP
 split
 · simp
 · split <;> simp
 · split <;> split <;> simp [ByteArray.append_assoc]
theorem encP_pos (o a b : Int) (k : Nat) : 0 < (encP o a b k).size := by
 rw [encP_cons, ByteArray.size_append, strOfNums_size]; simp; omega
theorem right_args {o a b : Int} (h : rightI o a b = true) : ((kindOf o).args = 0 ∧ a = 0 ∧ b = 0) ∨ ((kindOf o).args = 1 ∧ b = 0) ∨ (kindOf o).args = 2 := by
 unfold rightI at h; simp only at h; split at h
 · next h0 => simp at h; exact .inl ⟨h0, h⟩
 · split at h
   · next h1 => simp at h; exact .inr (.inl ⟨h1, h.2⟩)
   · split at h
     · next h2 => exact .inr (.inr h2)
     · cases h
theorem encP_two (o a b : Int) {ka : Int} (h : (kindOf o).args = ka) : encP o a b 2 = strOfNums [o] ++ ((if 0 < ka then putS a else BE) ++ (if 1 < ka then putS b else BE)) := by rw [encP_cons]; simp only [h]
def DecRel (w : World) (at_ : Nat) (o : Int) (n1 n2 : Nat) (a b : Int) (vat vk : Value) (wr : World) : Prop := ∃ (k : Nat) (A B z : Int), wr.heap[w.heap.size + 1]? = some (.cells #[O Y o, O Y A, O Y B] 127 (0, 0)) ∧ wr.heap[w.heap.size]? = some (.cells #[O Y 0, O Y 0, O Y 0] 127 (0, 0)) ∧ Below w.heap.size w wr ∧ vk = O Y k ∧ vat = O Y z ∧ ((k = 0 ∧ A = 0 ∧ B = 0 ∧ z = at_ + 1) ∨ (k = 1 ∧ a = A ∧ B = 0 ∧ z = at_ + 1 + n1 ∧ 0 < (kindOf o).args) ∨ (k = 2 ∧ a = A ∧ b = B ∧ z = at_ + 1 + n1 + n2 ∧ 1 < (kindOf o).args))
theorem decode_any (s : ByteArray) (at_ : Nat) (o a b : Int) (w : World) (ha : Sm a) (hb : Sm b) (hri : rightI o a b = true) (h : Sub s at_ (encI o a b)) (hs : s.size ≤ 1000000000) : Calls Tryz.prog 162 #[.string s, O Y at_] w fun e w' => e = .returned (.tuple #[.agg #[O Y o, O Y a, O Y b], O Y ((at_ + (encI o a b).size : Nat) : Int), O Y 0]) ∧ Below w.heap.size w w' := by
 have hx : encI o a b = encP o a b 2 := by unfold encI; rw [if_pos hri]
 rw [hx] at h ⊢; have hfit := h.1; have d0 : decide ((at_ : Int) < 0) = false := decide_eq_false (by omega); have d1 : decide ((s.size : Int) < (at_ : Int)) = false := decide_eq_false (by omega); have d2 : decide (s.size < at_) = false := decide_eq_false (by omega); have h1 := encP_pos o a b 2; have hat : at_ < s.size := by omega
 have d3 : ((at_ : Int) == (s.size : Int)) = false := beq_eq_false_iff_ne.mpr (by omega); have d4 : (at_ == s.size) = false := beq_eq_false_iff_ne.mpr (by omega); have hat2 : (at_ : Int) < (s.size : Int) := by omega
 have ho := rightI_bd hri; have hb0 : ((s[at_]'hat).toNat : Int) = o := by
  have h5 : Sub s at_ (strOfNums [o]) := by rw [encP_cons] at h; exact h.left
  obtain ⟨h6, h7⟩ := strOf_get [o] (by simp; omega) 0 o rfl; rw [← h7, ← h5.2 0 h6 (by omega)]; rfl
 obtain ⟨ka, hka⟩ : ∃ ka, (kindOf o).args = ka := ⟨_, rfl⟩
 have hS := h; rw [encP_two o a b hka] at hS; have hN1 : 0 < ka → Sub s (at_ + 1) (putS a) := by
  intro hk; rw [if_pos hk] at hS; have := hS.right.left; rwa [strOfNums_size] at this
 have hN2 : 1 < ka → Sub s (at_ + 1 + (putS a).size) (putS b) := by
  intro hk; rw [if_pos hk, if_pos (by omega)] at hS; have := hS.right.right; rwa [strOfNums_size] at this
 have hE : (encP o a b 2).size = 1 + ((if 0 < ka then (putS a).size else 0) + (if 1 < ka then (putS b).size else 0)) := by
  rw [encP_two o a b hka, ByteArray.size_append, ByteArray.size_append, strOfNums_size]; congr 2 <;> split <;> simp
 have hra := right_args hri; rw [hka] at hra; have hA := fun w => ZZ (args_any o w); rw [hka] at hA; have hG1 := fun (hk : 0 < ka) w => ZZ (get_sub s (at_ + 1) a w ha (hN1 hk) hs); have hG2 := fun (hk : 1 < ka) w => ZZ (get_sub s (at_ + 1 + (putS a).size) b w hb (hN2 hk) hs); obtain ⟨E, hEE⟩ : ∃ E, (encP o a b 2).size = E := ⟨_, rfl⟩
 rw [hEE] at hE hfit ⊢; obtain ⟨n1, hn1⟩ : ∃ E, (putS a).size = E := ⟨_, rfl⟩
 obtain ⟨n2, hn2⟩ : ∃ E, (putS b).size = E := ⟨_, rfl⟩
 rw [hn1] at hE hG1 hG2; rw [hn2] at hE hG2; clear hN1 hN2 hS h hx hEE hn1 hn2 h1; replace hG1 := ZZ hG1; replace hG2 := ZZ hG2; replace hA := ZZ hA; replace hra := ZZ hra; replace hE := ZZ hE; replace hfit := ZZ hfit; replace ha := ZZ ha; replace hb := ZZ hb; go_enter Tryz.func162, Tryz.ntmps162; go_wp2_with fail; obtain ⟨w0, hw0⟩ : ∃ w0, ((w.alloc (.cells #[O Y 0, O Y 0, O Y 0] 127)).alloc (.cells #[O Y o, O Y 0, O Y 0] 127)) = w0 := ⟨_, rfl⟩
 have q1 : w0.heap[w.heap.size + 1]? = some (.cells #[O Y o, O Y 0, O Y 0] 127 (0, 0)) := by rw [← hw0]; simpa using heap_alloc_last (w.alloc (.cells #[O Y 0, O Y 0, O Y 0] 127)) (.cells #[O Y o, O Y 0, O Y 0] 127)
 have q0 : w0.heap[w.heap.size]? = some (.cells #[O Y 0, O Y 0, O Y 0] 127 (0, 0)) := by rw [← hw0, Below.heap_alloc _ _ _ (by simp)]; exact heap_alloc_last w _
 have qB : Below w.heap.size w w0 := by rw [← hw0]; exact ((BR w.heap.size w).alloc (NR _) _).alloc (by simp) _
 replace q1 := ZZ q1; replace q0 := ZZ q0; replace qB := ZZ qB; rw [hw0]; clear hw0; clear hat2 d0 d1 d2 d3 d4 hb0 hat ho; have i1 : ∀ w', (Instr.index 292 (.agg #[.pointer (some ⟨w.heap.size + 1, 1, none⟩), .pointer (some ⟨w.heap.size + 1, 2, none⟩)]) (O Y 0)).run Tryz.prog w' = .ok (.pointer (some ⟨w.heap.size + 1, 1, none⟩)) w' := fun w' => idxP (w.heap.size + 1) 0 w' (by omega); have i2 : ∀ w', (Instr.index 292 (.agg #[.pointer (some ⟨w.heap.size + 1, 1, none⟩), .pointer (some ⟨w.heap.size + 1, 2, none⟩)]) (O Y 1)).run Tryz.prog w' = .ok (.pointer (some ⟨w.heap.size + 1, 2, none⟩)) w' := fun w' => idxP (w.heap.size + 1) 1 w' (by omega); go_loopw [1, 39] (fun va vk wr => DecRel w at_ o n1 n2 a b va vk wr) (fun _ vk _ => 2 - (intOf vk).toNat); case atStart => exact ⟨0, 0, 0, _, q1.out, q0.out, qB.out, rfl, rfl, .inl ⟨rfl, rfl, rfl, rfl⟩⟩
 case round =>
  obtain ⟨k, A, B, z, b1, b0, bB, rfl, rfl, hcs⟩ := hrel; have x0 : wr.cell? ⟨w.heap.size + 1, 0, none⟩ = some (O Y o) := (blk_cell b1 0).trans rfl; have x1 : wr.cell? ⟨w.heap.size + 1, 1, none⟩ = some (O Y A) := (blk_cell b1 1).trans rfl; have x2 : wr.cell? ⟨w.heap.size + 1, 2, none⟩ = some (O Y B) := (blk_cell b1 2).trans rfl; have g1 := ZZ b1; have g0 := ZZ b0; have gB := ZZ bB; clear b1 b0 bB; rw [hka] at hcs; rcases hcs with ⟨rfl, rfl, rfl, rfl⟩ | ⟨rfl, rfl, rfl, rfl, hk1⟩ | ⟨rfl, rfl, rfl, rfl, hk2⟩
  · have hA0 := hA.out wr; by_cases hk : 0 < ka
    · have c1 : decide (ka ≤ 0) = false := decide_eq_false (by omega); have hG := fun w => (hG1.out hk w)
      replace hG := ZZ hG; go_wp2_with fail; refine hA0.out.mono ?_; rintro e w2 ⟨rfl, hb2⟩; go_wp2_with fail; refine (hG.out _).out.mono ?_; rintro e w3 ⟨rfl, hb3⟩; have hb4 := hb2.trans (hb3.mono hb2.size); have y1 : w3.heap[w.heap.size + 1]? = _ := (hb4.block _ (ltA g1.out)).trans g1.out; have y0 : w3.heap[w.heap.size]? = _ := (hb4.block _ (ltA g0.out)).trans g0.out; have z1 : w3.cell? ⟨w.heap.size + 1, 1, none⟩ = some (O Y 0) := (blk_cell y1 1).trans rfl; have z2 := blk_frozen y1 1; have hb5 := ZZ (gB.out.trans (hb4.mono gB.out.size)); replace y1 := ZZ y1; replace y0 := ZZ y0; clear hb2 hb3 hb4; go_wp2_with fail; exact ⟨⟨1, a, 0, _, blk_set y1.out 1 _, (BH _ _ _ _ (by show ¬ w.heap.size = w.heap.size + 1; omega)).trans y0.out, hb5.out.setCell (by show w.heap.size ≤ w.heap.size + 1; omega) _, rfl, rfl, .inr (.inl ⟨rfl, rfl, rfl, rfl, by rw [hka]; exact hk⟩)⟩, by simp [intOf]⟩
    · have c1 : decide (ka ≤ 0) = true := decide_eq_true (by omega); obtain ⟨h1, ha0, hb0⟩ : ka = 0 ∧ a = 0 ∧ b = 0 := by have := hra.out; omega
      have hEv : E = 1 := by have := hE.out; rw [if_neg (by omega), if_neg (by omega)] at this; omega
      replace hEv := ZZ hEv; clear h1; replace x1 : wr.cell? ⟨w.heap.size + 1, 1, none⟩ = some (O Y a) := by rw [ha0]; exact x1
      replace x2 : wr.cell? ⟨w.heap.size + 1, 2, none⟩ = some (O Y b) := by rw [hb0]; exact x2
      clear ha0 hb0; go_wp2_with fail; refine hA0.out.mono ?_; rintro e wq ⟨rfl, hb2⟩; have p0 : _ = some (O Y o) := cell_keep hb2 (NR _) x0; have p1 : _ = some (O Y a) := cell_keep hb2 (NR _) x1; have p2 : _ = some (O Y b) := cell_keep hb2 (NR _) x2; have p4 := ZZ ((hb2.block _ (ltA g0.out)).trans g0.out); have pB := ZZ (gB.out.trans (hb2.mono gB.out.size)); clear hb2 x0 x1 x2 g1 g0 gB; have hrr := ZZ (right_any o a b wq); rw [hri] at hrr; go_wp2_with fail; refine hrr.out.mono ?_; rintro e w9 ⟨rfl, hb9⟩; have t0 : _ = some (O Y o) := cell_keep hb9 (NR _) p0; have t1 : _ = some (O Y a) := cell_keep hb9 (NR _) p1; have t2 : _ = some (O Y b) := cell_keep hb9 (NR _) p2; have t4 := ZZ ((hb9.block _ (ltA p4.out)).trans p4.out); have tB := ZZ (pB.out.trans (hb9.mono pB.out.size)); have r0 : w9.cell? ⟨w.heap.size, 0, none⟩ = some (O Y 0) := (blk_cell t4.out 0).trans rfl; have r1 : w9.cell? ⟨w.heap.size, 1, none⟩ = some (O Y 0) := (blk_cell t4.out 1).trans rfl; have r2 : w9.cell? ⟨w.heap.size, 2, none⟩ = some (O Y 0) := (blk_cell t4.out 2).trans rfl; have rf0 := blk_frozen t4.out 0; have rf1 := blk_frozen t4.out 1; have rf2 := blk_frozen t4.out 2; clear hb9 hrr p0 p1 p2 p4 pB; go_wp2_with fail; refine bodyPost_ret (results_ctt rfl _ _ w.heap.size 127 #[O Y o, O Y a, O Y b] (0, 0) _ rfl (blk_set (blk_set (blk_set t4.out 0 _) 1 _) 2 _) Tryz.underlying127 rfl (by kernel_rfl)) rfl ?_; refine ⟨?_, ((tB.out.setCell (NR _) _).setCell (NR _) _).setCell (NR _) _⟩; rw [hEv.out]; rfl
  · have hA0 := hA.out wr; by_cases hk : 1 < ka
    · have c1 : decide (ka ≤ 1) = false := decide_eq_false (by omega); have hG := fun w => (hG2.out hk w)
      replace hG := ZZ hG; go_wp2_with fail; refine hA0.out.mono ?_; rintro e w2 ⟨rfl, hb2⟩; go_wp2_with fail; refine (hG.out _).out.mono ?_; rintro e w3 ⟨rfl, hb3⟩; have hb4 := hb2.trans (hb3.mono hb2.size); have y1 : w3.heap[w.heap.size + 1]? = _ := (hb4.block _ (ltA g1.out)).trans g1.out; have y0 : w3.heap[w.heap.size]? = _ := (hb4.block _ (ltA g0.out)).trans g0.out; have z1 : w3.cell? ⟨w.heap.size + 1, 2, none⟩ = some (O Y 0) := (blk_cell y1 2).trans rfl; have z2 := blk_frozen y1 2; have hb5 := ZZ (gB.out.trans (hb4.mono gB.out.size)); replace y1 := ZZ y1; replace y0 := ZZ y0; clear hb2 hb3 hb4; go_wp2_with fail; exact ⟨⟨2, a, b, _, blk_set y1.out 2 _, (BH _ _ _ _ (by show ¬ w.heap.size = w.heap.size + 1; omega)).trans y0.out, hb5.out.setCell (by show w.heap.size ≤ w.heap.size + 1; omega) _, rfl, rfl, .inr (.inr ⟨rfl, rfl, rfl, rfl, by rw [hka]; exact hk⟩)⟩, by simp [intOf]⟩
    · have c1 : decide (ka ≤ 1) = true := decide_eq_true (by omega); have hb0 : b = 0 := by have := hra.out; omega
      have hEv : E = 1 + n1 := by have := hE.out; rw [if_pos (by omega), if_neg (by omega)] at this; omega
      replace hEv := ZZ hEv; replace x2 : wr.cell? ⟨w.heap.size + 1, 2, none⟩ = some (O Y b) := by rw [hb0]; exact x2
      clear hb0; go_wp2_with fail; refine hA0.out.mono ?_; rintro e wq ⟨rfl, hb2⟩; have p0 : _ = some (O Y o) := cell_keep hb2 (NR _) x0; have p1 : _ = some (O Y a) := cell_keep hb2 (NR _) x1; have p2 : _ = some (O Y b) := cell_keep hb2 (NR _) x2; have p4 := ZZ ((hb2.block _ (ltA g0.out)).trans g0.out); have pB := ZZ (gB.out.trans (hb2.mono gB.out.size)); clear hb2 x0 x1 x2 g1 g0 gB; have hrr := ZZ (right_any o a b wq); rw [hri] at hrr; go_wp2_with fail; refine hrr.out.mono ?_; rintro e w9 ⟨rfl, hb9⟩; have t0 : _ = some (O Y o) := cell_keep hb9 (NR _) p0; have t1 : _ = some (O Y a) := cell_keep hb9 (NR _) p1; have t2 : _ = some (O Y b) := cell_keep hb9 (NR _) p2; have t4 := ZZ ((hb9.block _ (ltA p4.out)).trans p4.out); have tB := ZZ (pB.out.trans (hb9.mono pB.out.size)); have r0 : w9.cell? ⟨w.heap.size, 0, none⟩ = some (O Y 0) := (blk_cell t4.out 0).trans rfl; have r1 : w9.cell? ⟨w.heap.size, 1, none⟩ = some (O Y 0) := (blk_cell t4.out 1).trans rfl; have r2 : w9.cell? ⟨w.heap.size, 2, none⟩ = some (O Y 0) := (blk_cell t4.out 2).trans rfl; have rf0 := blk_frozen t4.out 0; have rf1 := blk_frozen t4.out 1; have rf2 := blk_frozen t4.out 2; clear hb9 hrr p0 p1 p2 p4 pB; go_wp2_with fail; refine bodyPost_ret (results_ctt rfl _ _ w.heap.size 127 #[O Y o, O Y a, O Y b] (0, 0) _ rfl (blk_set (blk_set (blk_set t4.out 0 _) 1 _) 2 _) Tryz.underlying127 rfl (by kernel_rfl)) rfl ?_; refine ⟨?_, ((tB.out.setCell (NR _) _).setCell (NR _) _).setCell (NR _) _⟩; rw [hEv.out]; rw [show ((at_ + (1 + n1) : Nat) : Int) = (at_ : Int) + 1 + n1 by omega]; rfl
  · have hEv : E = 1 + n1 + n2 := by have := hE.out; rw [if_pos (by omega), if_pos (by omega)] at this; omega
    replace hEv := ZZ hEv; clear hk2; obtain ⟨wq, hwq⟩ : ∃ wq, wr = wq := ⟨_, rfl⟩
    rw [hwq] at x0 x1 x2 g0 gB ⊢; clear hwq g1; have p0 := x0; have p1 := x1; have p2 := x2; have p4 := g0; have pB := gB; clear x0 x1 x2 g0 gB; have hrr := ZZ (right_any o a b wq); rw [hri] at hrr; go_wp2_with fail; refine hrr.out.mono ?_; rintro e w9 ⟨rfl, hb9⟩; have t0 : _ = some (O Y o) := cell_keep hb9 (NR _) p0; have t1 : _ = some (O Y a) := cell_keep hb9 (NR _) p1; have t2 : _ = some (O Y b) := cell_keep hb9 (NR _) p2; have t4 := ZZ ((hb9.block _ (ltA p4.out)).trans p4.out); have tB := ZZ (pB.out.trans (hb9.mono pB.out.size)); have r0 : w9.cell? ⟨w.heap.size, 0, none⟩ = some (O Y 0) := (blk_cell t4.out 0).trans rfl; have r1 : w9.cell? ⟨w.heap.size, 1, none⟩ = some (O Y 0) := (blk_cell t4.out 1).trans rfl; have r2 : w9.cell? ⟨w.heap.size, 2, none⟩ = some (O Y 0) := (blk_cell t4.out 2).trans rfl; have rf0 := blk_frozen t4.out 0; have rf1 := blk_frozen t4.out 1; have rf2 := blk_frozen t4.out 2; clear hb9 hrr p0 p1 p2 p4 pB; go_wp2_with fail; refine bodyPost_ret (results_ctt rfl _ _ w.heap.size 127 #[O Y o, O Y a, O Y b] (0, 0) _ rfl (blk_set (blk_set (blk_set t4.out 0 _) 1 _) 2 _) Tryz.underlying127 rfl (by kernel_rfl)) rfl ?_; refine ⟨?_, ((tB.out.setCell (NR _) _).setCell (NR _) _).setCell (NR _) _⟩; rw [hEv.out]; rw [show ((at_ + (1 + n1 + n2) : Nat) : Int) = (at_ : Int) + 1 + n1 + n2 by omega]; rfl
theorem info127T : (Tryz.prog.info? 127).map (fun i => (i.zero, i.size, i.bytes)) = some (some (.agg #[O Y 0, O Y 0, O Y 0]), 3, 24) := by kernel_rfl
theorem catI_pre (s : ByteArray) (l : List I3) : catI s l = s ++ catI BE l := by
 suffices H : ∀ (l : List I3) (a b : ByteArray), catI (a ++ b) l = a ++ catI b l by simpa using H l s BE
 intro l; induction l with
 | nil => intro a b; rfl
 | cons x l ih => intro a b; show catI (a ++ b ++ encI x.o x.a x.b) l = a ++ catI (b ++ encI x.o x.a x.b) l; rw [ByteArray.append_assoc, ih]
theorem catI_two (s : ByteArray) (a b : List I3) : catI s (a ++ b) = catI s a ++ catI BE b := by
 rw [← catI_pre]; unfold catI; rw [List.foldl_append]
theorem catI_cons (x : I3) (l : List I3) : catI BE (x :: l) = encI x.o x.a x.b ++ catI BE l := by
 rw [← catI_pre]; show catI (BE ++ encI x.o x.a x.b) l = _; simp
theorem catI_at (l : List I3) (j : Nat) (x : I3) (hx : l[j]? = some x) : Sub (catI BE l) (catI BE (l.take j)).size (encI x.o x.a x.b) ∧ (catI BE (l.take (j + 1))).size = (catI BE (l.take j)).size + (encI x.o x.a x.b).size := by
 have e1 : l = l.take j ++ x :: l.drop (j + 1) := by
  conv => lhs; rw [← List.take_append_drop j l, drop_consT l j x hx]
 constructor
 · conv => arg 1; rw [e1, catI_two, catI_cons, ← ByteArray.append_assoc]
   exact Sub.all _ _ _
 · rw [take_next l j x hx, catI_snoc, ByteArray.size_append]
theorem encI_pos (x : I3) (h : okI x = true) : 0 < (encI x.o x.a x.b).size := by
 unfold encI; rw [if_pos (show rightI x.o x.a x.b = true from h)]; exact encP_pos _ _ _ _
def sliceLen : Value → Nat | .slice _ n _ => n | _ => 0
def RdRel (w : World) (l : List I3) (vl va : Value) (wr : World) : Prop := ∃ (k : Nat) (A : Option Addr) (c : Nat), k ≤ l.length ∧ va = O Y ((catI BE (l.take k)).size : Nat) ∧ vl = .slice A k c ∧ LRow wr w.heap.size 127 3 (.slice A k c) k ((l.take k).flatMap I3.enc) ∧ Below w.heap.size w wr
theorem read_any (l : List I3) (w : World) (hs : ∀ x ∈ l, SmI x) (hok : l.all okI = true) (hlen : l.length ≤ 200) : Calls Tryz.prog 156 #[.string (catI BE l)] w fun e w' => ∃ v, e = .returned (.tuple #[v, O Y 0]) ∧ LRow w' w.heap.size 127 3 v l.length (l.flatMap I3.enc) ∧ Below w.heap.size w w' := by
 have hsz := catI_size l hs BE; have hz : (BE).size = 0 := rfl; have hD : ∀ (k : Nat) (x : I3), l[k]? = some x → (∀ w, Calls Tryz.prog 162 #[.string (catI BE l), O Y ((catI BE (l.take k)).size : Nat)] w fun e w' => e = .returned (.tuple #[.agg #[O Y x.o, O Y x.a, O Y x.b], O Y ((catI BE (l.take (k + 1))).size : Nat), O Y 0]) ∧ Below w.heap.size w w') ∧ (catI BE (l.take k)).size < (catI BE l).size := by
  intro k x hx; obtain ⟨h1, h2⟩ := catI_at l k x hx; have hm := LM hx; have h3 := List.all_eq_true.1 hok x hm; have h4 := encI_pos x h3; refine ⟨fun w => ?_, by have := h1.1; omega⟩; rw [h2]; exact decode_any _ _ x.o x.a x.b w (hs x hm).1 (hs x hm).2 h3 h1 (by omega)
 have hfull : (catI BE (l.take l.length)).size = (catI BE l).size := by rw [List.take_length]
 replace hD := ZZ hD; replace hs := ZZ hs; replace hok := ZZ hok; generalize catI BE l = S at *; go_enter Tryz.func156, Tryz.ntmps156; go_wp2_with fail; go_loopw [4, 5] (fun vl va wr => RdRel w l vl va wr) (fun vl _ _ => l.length - sliceLen vl); case atStart => exact ⟨0, none, 0, Nat.zero_le _, rfl, rfl, LRow.nil _ _ _ _, BR _ _⟩
 case round =>
  obtain ⟨k, A, c, hk, rfl, rfl, hrow, hb2⟩ := hrel; replace hrow := ZZ hrow; replace hb2 := ZZ hb2; by_cases hd : k < l.length
  · obtain ⟨x, hx⟩ : ∃ x, l[k]? = some x := ⟨_, GE hd⟩
    obtain ⟨hg, hlt⟩ := hD.out k x hx; have b1 : (((catI BE (l.take k)).size : Nat) : Int) < (S.size : Int) := by omega
    have b2 : ((k : Int) == 200) = false := beq_eq_false_iff_ne.mpr (by omega); have b3 : ¬ k = 200 := by omega
    obtain ⟨z1, hz1⟩ : ∃ z1 : Int, (((catI BE (l.take (k + 1))).size : Nat) : Int) = z1 := ⟨_, rfl⟩
    rw [hz1] at hg; replace hg := ZZ hg; replace hz1 := ZZ hz1; have hk2 := ZZ hk; replace hx := ZZ hx; clear hk hfull hsz hz; go_wp2_with fail; refine (hg.out _).mono ?_; rintro e w2 ⟨rfl, hb3⟩; have hb6 := hb3.alloc hb3.size (.cells #[O Y x.o, O Y x.a, O Y x.b] 127); have hrow2 := ZZ (LRow.step hrow.out hb6); have hb4 := ZZ (hb2.out.trans (hb6.mono hb2.out.size)); clear hb3 hb6; go_wp2_with (first | (at_builtin; refine wpList_append_one w (w2.alloc (.cells #[O Y x.o, O Y x.a, O Y x.b] 127)) w.heap.size rfl (.tmp 26) (.tmp 28) 43 127 (.agg #[O Y 0, O Y 0, O Y 0]) 3 24 rfl Tryz.underlying43 info127T rfl (by decide) (by decide) (.slice A k c) k ((l.take k).flatMap I3.enc) #[O Y x.o, O Y x.a, O Y x.b] rfl (by show Value.slice (some ⟨w2.heap.size + 1, 0, none⟩) 1 1 = _; simp) rfl (by simp [Value.oneCell']) hrow2.out hb4.out (NR _) (by omega) ?_; rintro A1 c1 w3 hrow3 hb5 - -) | fail)
    refine ⟨⟨k + 1, A1, c1, hd, by rw [hz1.out], rfl, ?_, hb5⟩, ?_⟩
    · rw [take_next l k x hx.out, List.flatMap_append]; exact hrow3
    · simp [sliceLen]; omega
  · have hke : k = l.length := by omega
    have b1 : ¬ (((catI BE (l.take k)).size : Nat) : Int) < (S.size : Int) := by rw [hke]; omega
    have b2 : decide ((((catI BE (l.take k)).size : Nat) : Int) < (S.size : Int)) = false := decide_eq_false b1; have b3 : ¬ (catI BE (l.take k)).size < S.size := by omega
    replace hke := ZZ hke; clear hfull hsz hz hd hk; go_wp2_with fail; go_ret2; refine ⟨_, rfl, ?_, hb2.out⟩; have := hrow.out; rw [hke.out, List.take_length] at this; rw [hke.out]; exact this
theorem Sub.extract {s : ByteArray} {k : Nat} {b : ByteArray} (h : Sub s k b) : s.extract k (k + b.size) = b := by
 obtain ⟨h1, h2⟩ := h; apply ByteArray.ext_getElem
 · rw [ByteArray.size_extract]; omega
 · intro i h3 h4; rw [ByteArray.getElem_extract]; exact h2 i h4 (by omega)
theorem LRow.mono {w : World} {B B' e size n : Nat} {v : Value} {xs : List Value} (h : LRow w B e size v n xs) (hB : B' ≤ B) : LRow w B' e size v n xs := by
 refine ⟨h.1, ?_⟩; rcases h.2 with h1 | ⟨g, cap, cur, h2, h3, h4⟩
 · exact .inl h1
 · exact .inr ⟨g, cap, cur, h2, Nat.le_trans hB h3, h4⟩
theorem must_any (g : Nat) (s : ByteArray) (at_ : Nat) (e : Int) (w : World) (hr : RdAt w g s at_) : Calls Tryz.prog 100 #[.pointer (some ⟨g, 0, none⟩), .bool true, O Y e] w fun e w' => e = .returned (.tuple #[]) ∧ w' = w := by
 obtain ⟨c0, c1, c2, -⟩ := hr.cells; clear hr; go_enter Tryz.func100, Tryz.ntmps100; go_wp2_with fail; go_end0; exact ⟨rfl, rfl⟩
theorem many_any (g : Nat) (s : ByteArray) (at_ : Nat) (n lim : Int) (w : World) (hr : RdAt w g s at_) (hn : Sm n) (h0 : 0 ≤ n) (hl : n ≤ lim) (h : Sub s at_ (putS n)) (hs : s.size ≤ 1000000000) : Calls Tryz.prog 98 #[.pointer (some ⟨g, 0, none⟩), O Y lim] w fun e w' => e = .returned (O Y n) ∧ RdAt w' g s (at_ + (putS n).size) ∧ Keeps [g] w w' := by
 have hN := ZZ (num_any g s at_ n hn h w hr hs); have d0 : decide (0 ≤ n) = true := decide_eq_true h0; have d1 : decide (n ≤ lim) = true := decide_eq_true hl; clear hr h; go_enter Tryz.func98, Tryz.ntmps98; go_wp2_with fail; refine hN.out.mono ?_; rintro e w1 ⟨rfl, hr, hk⟩; have hM := fun e => ZZ (must_any g s _ e w1 hr); obtain ⟨-, -, c2, -⟩ := hr.cells; replace hr := ZZ hr; replace hk := ZZ hk; replace hM := ZZ hM; go_wp2_with fail; refine (hM.out _).out.mono ?_; rintro e w2 ⟨rfl, rfl⟩; go_wp2_with fail; refine (hM.out _).out.mono ?_; rintro e w3 ⟨rfl, rfl⟩; go_wp2_with fail; go_ret; exact ⟨rfl, hr.out, hk.out⟩
def progS (l : List I3) : ByteArray := putS (catI BE l).size ++ catI BE l
theorem code_rd (g : Nat) (s : ByteArray) (at_ : Nat) (l : List I3) (hl : ∀ x ∈ l, SmI x) (hok : l.all okI = true) (hlen : l.length ≤ 200) (hc4 : (catI BE l).size ≤ 4000) (h : Sub s at_ (progS l)) (w : World) (hr : RdAt w g s at_) (hs : s.size ≤ 1000000000) : Calls Tryz.prog 137 #[.pointer (some ⟨g, 0, none⟩)] w fun e w' => ∃ v, e = .returned v ∧ LRow w' w.heap.size 127 3 v l.length (l.flatMap I3.enc) ∧ RdAt w' g s (at_ + (progS l).size) ∧ Keeps [g] w w' := by
 have hfit := h.1; have hx := h.right.extract; have hM := ZZ (many_any g s at_ (catI BE l).size 4000 w hr ⟨by omega, by omega⟩ (by omega) (by omega) h.left hs); have hRd := fun w => ZZ (read_any l w hl hok hlen); replace hRd := ZZ hRd; have hsz : (progS l).size = (putS (catI BE l).size).size + (catI BE l).size := by unfold progS; rw [ByteArray.size_append]
 rw [hsz] at hfit ⊢; rw [← Nat.add_assoc] at hfit ⊢; generalize (putS (catI BE l).size).size = n1 at *; generalize (catI BE l).size = csz at *; replace hx := ZZ hx; clear h; go_enter Tryz.func137, Tryz.ntmps137; go_wp2_with fail; refine hM.out.mono ?_; rintro e w1 ⟨rfl, hq1, hk1⟩; obtain ⟨c0, c1, c2, hfr⟩ := hq1.cells; have f1 := hfr 1; have hgl := hq1.lt; replace hq1 := ZZ hq1; replace hk1 := ZZ hk1; clear hfr; obtain ⟨z1, hz1⟩ : ∃ z1 : Int, ((at_ + n1 : Nat) : Int) = z1 := ⟨_, rfl⟩
 rw [hz1] at c1; have d1 : decide ((csz : Int) ≤ (s.size : Int) - z1) = true := decide_eq_true (by omega); have hzb : 0 ≤ z1 ∧ z1 ≤ 1000000000 ∧ (csz : Int) ≤ 4000 ∧ z1 + csz ≤ s.size := by omega
 replace hz1 := ZZ hz1; go_wp2_with fail; refine st 14 (S := fun w' => w'.cell? ⟨g, 0, none⟩ = some (.string s) ∧ w'.cell? ⟨g, 1, none⟩ = some (O Y z1)) (ds := [13]) ⟨c0, c1⟩ (fun hHeld => ?_); refine pq 0 ?_; refine pq 1 ?_; refine pq 2 ?_; refine pq 3 ?_; refine pq 4 ?_; refine pq 7 ?_; refine pq 8 ?_; refine pq 9 ?_; refine tk 5 hHeld ?_; refine pq 6 ?_; refine tk 10 hHeld ?_; refine pq 11 ?_; refine pq 12 ?_ (v := (.bool true)) (hy := by intro w'; go_simp; rw [wrapIn (by omega)]; omega); refine rg2 13 (fun K hK => ?_); refine goes_ Tryz.func100 (by kernel_rfl) rfl #[.pointer (some ⟨g, 0, none⟩), .bool true, O Y 2] (by rfl) rfl rfl (by (try simp only [MA, List.map_cons, List.map_nil]); first | done | rfl) ?_; refine (must_any g s _ 2 _ (hq1.out.step (BR _ _).drew)).mono ?_; rintro e wq ⟨rfl, hwq⟩; refine ⟨_, rfl, ?_⟩; rw [hwq]; clear hwq; refine hK.out _ _ ?_; clear hK K; refine nm ?_; refine dn ?_; clear hHeld; go_wp2_with fail; have hq : RdAt (w1.setCell ⟨g, 1, none⟩ (O Y (z1 + csz))).drew g s (at_ + n1 + csz) := by
  show _ = some (Obj.cells #[.string s, O Y ((at_ + n1 + csz : Nat) : Int), O Y 0] 210 (0, 0)); rw [show ((at_ + n1 + csz : Nat) : Int) = z1 + csz by rw [← hz1.out]; omega]; exact blk_set hq1.out 1 _
 have hk2 : Keeps [g] w (w1.setCell ⟨g, 1, none⟩ (O Y (z1 + csz))).drew := Keeps.trans (Keeps.setCell hk1.out g 1 _ (.inl (by simp))) (Keeps.of_below (BR _ _).drew [g]); have e0 := hq.cells.1; have e1 := hq.cells.2.1; rw [show ((at_ + n1 + csz : Nat) : Int) = z1 + (csz : Int) by rw [← hz1.out]; omega] at e1; replace hq := ZZ hq; replace hk2 := ZZ hk2; clear c0 c1 c2 f1; have hsl : ∀ w', (Instr.slice 9 (.string s) (some (O Y z1)) (some (O Y (z1 + csz))) none).run Tryz.prog w' = .ok (.string (catI BE l)) w' := by
  intro w'; rw [← hx.out, show z1 + (csz : Int) = ((at_ + n1 + csz : Nat) : Int) by rw [← hz1.out]; omega, ← hz1.out]; have h9 := run_slice_string (P := Tryz.prog) w' 9 s .i64 .i64 ((at_ + n1 : Nat) : Int) ((at_ + n1 + csz : Nat) : Int) Tryz.underlying9 (by omega) (by omega) (by omega); rwa [Int.toNat_natCast, Int.toNat_natCast] at h9
 replace hsl := ZZ hsl; generalize (w1.setCell ⟨g, 1, none⟩ (O Y (z1 + csz))).drew = wX at *; refine st 19 (S := fun w' => w'.cell? ⟨g, 0, none⟩ = some (.string s) ∧ w'.cell? ⟨g, 1, none⟩ = some (O Y (z1 + csz))) (ds := [11, 18]) ⟨e0, e1⟩ (fun hHeld => ?_); refine pq 0 ?_; refine pq 1 ?_; refine pq 2 ?_; refine pq 3 ?_; refine pq 5 ?_; refine pq 6 ?_; refine pq 7 ?_; refine pq 8 ?_; refine tk 4 hHeld ?_; refine tk 9 hHeld ?_; refine pq 10 ?_ (v := (.string (catI BE l))) (hy := by intro w'; go_simp; rw [hsl.out]; rfl); refine rg2 11 (fun K hK => ?_); refine goes_ Tryz.func156 (by kernel_rfl) rfl #[.string (catI BE l)] (by rfl) rfl rfl (by (try simp only [MA, List.map_cons, List.map_nil]); first | done | rfl) ?_; refine ((hRd.out _).out).mono ?_; rintro e w5 ⟨v, rfl, hrow, hb5⟩; refine ⟨_, rfl, ?_⟩; have hb6 := (BR wX.heap.size wX).drew.trans hb5; have hq5 := hq.out.step hb6; obtain ⟨-, -, x2, hfr⟩ := hq5.cells; have f2 := hfr 2; have hK5 := ZZ (hk2.out.trans (Keeps.of_below hb6 [g])); replace hq5 := ZZ hq5; replace hrow := ZZ hrow; clear hb5 hb6 hfr; refine hK.out _ _ ?_; clear hK K; refine nm ?_; refine pq 12 ?_; refine pq 13 ?_; refine pq 14 ?_; refine pq 15 ?_; refine pq 16 ?_; refine pq 17 ?_; refine rg2 18 (fun K hK => ?_); refine skip_ (w1 := ?_) (by rfl) rfl ?_ ?_; rotate_left
 · go_simp; rfl
 refine hK.out _ _ ?_; clear hK K; refine dn ?_; clear hHeld; go_wp2_with fail; go_ret; refine ⟨_, rfl, ?_, blk_set hq5.out 2 _, Keeps.setCell hK5.out g 2 _ (.inl (by simp))⟩; have hg : w.heap.size ≤ wX.drew.heap.size := hk2.out.size; have := LRow.keeps hrow.out (Keeps.setCell (Keeps.refl [g] w5) g 2 (O Y 0) (.inl (by simp))) (by have := hq.out.lt; simpa using this); exact LRow.mono this hg
end Go.Proofs.YtoopeamoejmjeaaGreat.Tp
