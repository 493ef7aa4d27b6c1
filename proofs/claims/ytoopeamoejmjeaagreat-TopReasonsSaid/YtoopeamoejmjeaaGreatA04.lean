/- Steps of the walk, merged and shortened by a program (fit.py). -/
import Derived.BigQuiet
import Derived.Deep.QuietTactic
import Derived.DeepKeys4
import Derived.KernelRfl
import Derived.Lib.Hide
import Derived.Maps.Keyed
import Derived.Maps.Range
import Derived.StillTailTactics
import Derived.Test.YtoopeamoejmjeaaGreatProg
import Derived.WalkKit
import Derived.WalkSpells
import Derived.Test.YtoopeamoejmjeaaGreatA01
import Derived.Test.YtoopeamoejmjeaaGreatA02
import Derived.Test.YtoopeamoejmjeaaGreatA03
import Derived.Test.YtoopeamoejmjeaaGreatWCut
set_option linter.unusedVariables false
set_option linter.unusedSimpArgs false
set_option maxRecDepth 100000
set_option maxHeartbeats 4000000
open Nat renaming le_refl → NR
open List renaming getElem?_eq_getElem → GE
open Go.RowKit.Below renaming refl → BR
open ByteArray renaming empty → BE
open List renaming getD_eq_getElem?_getD → GD
open Array renaming mem_of_getElem? → AM
open List renaming mem_of_getElem? → LM
open List renaming getElem?_eq_some_iff → GI
open List renaming map_toArray → MA
open Go.RowKit.Below renaming heap_setCell → BH
open Go.Lib renaming hid → ZZ
open Go.Value renaming int → O
open Go.IntKind renaming i64 → Y
namespace Go.Proofs.YtoopeamoejmjeaaGreat.Tp
open RowKit YtoopeamoejmjeaaGreatW.PrintWords YtoopeamoejmjeaaGreatW.PrintLast YtoopeamoejmjeaaGreatW.PrintMore Tm
theorem ints_new (w : World) (l : List Int) (T : TypeId) (hl : (l.length : Int) ≤ 9223372036854775807) : IntsAt (w.alloc (.cells (l.map (O Y)).toArray T)) (.slice (some ⟨w.heap.size, 0, none⟩) l.length l.length) l := by
 refine ⟨_, _, rfl, NR _, hl, fun j u hj => ⟨_, rfl, ?_⟩⟩; exact new_src w _ T j u (by simpa using hj)
structure EncSt (w W : World) (im : ImageD) (As Ab At : Option Addr) (cs cb ct : Nat) : Prop where
 blk : W.heap[w.heap.size]? = some (.cells #[O Y im.sw, O Y im.la, O Y im.co, O Y im.inp, .slice As im.safe.length cs, .slice Ab im.blocks.length cb, .slice At im.tasks.length ct] 26 (0, 0))
 safe : IntsAt W (.slice As im.safe.length cs) im.safe
 rows : RowsAt W (.slice Ab im.blocks.length cb) im.blocks
 tasks : TasksAt W (.slice At im.tasks.length ct) im.tasks
 bel : Below w.heap.size w W
theorem EncSt.lt {w W : World} {im : ImageD} {As Ab At : Option Addr} {cs cb ct : Nat} (h : EncSt w W im As Ab At cs cb ct) : w.heap.size < W.heap.size := ltA h.blk
theorem EncSt.step {w W W' : World} {im : ImageD} {As Ab At : Option Addr} {cs cb ct : Nat} (h : EncSt w W im As Ab At cs cb ct) (hb : Below W.heap.size W W') : EncSt w W' im As Ab At cs cb ct :=
 ⟨(hb.block _ h.lt).trans h.blk, h.safe.step hb, h.rows.step hb, h.tasks.step hb, h.bel.trans (hb.mono (Nat.le_of_lt h.lt))⟩
theorem EncSt.cell {w W : World} {im : ImageD} {As Ab At : Option Addr} {cs cb ct : Nat} (h : EncSt w W im As Ab At cs cb ct) (j : Nat) (v : Value) (hv : #[O Y im.sw, O Y im.la, O Y im.co, O Y im.inp, .slice As im.safe.length cs, .slice Ab im.blocks.length cb, .slice At im.tasks.length ct][j]? = some v) : W.cell? ⟨w.heap.size, j, none⟩ = some v := (blk_cell h.blk j).trans hv
def P3 (im : ImageD) : ByteArray := sigS ++ catS BE (numS im) ++ listS im.safe ++ catS BE [(im.blocks.length : Int)]
def P5 (im : ImageD) : ByteArray := catF listS (P3 im) im.blocks ++ catS BE [(im.tasks.length : Int)]
theorem cat_one (n : Int) : catS BE [n] = putS n := by
 show BE ++ putS n = _; simp
theorem img_eq (im : ImageD) : catF taskS (P5 im) im.tasks = imgS im := by
 rw [catF_pre]; unfold P5; rw [catF_pre listS]; unfold P3 imgS; rw [cat_one, cat_one]
theorem codeB_eq {t : TaskD} (h : TaskOk t) : codeB t.code = catI BE t.code := if_pos ⟨h.cl, h.co⟩
theorem taskS_eq (t : TaskD) (x : ByteArray) (hx : catI BE t.code = x) : catS BE t.nums ++ listS t.blocks ++ listS t.outs ++ catS BE [(x.size : Int)] ++ x = taskS t := by
 subst hx; unfold taskS progS; rw [cat_one]; simp [ByteArray.append_assoc, TaskD.nums]
theorem catF_size {α : Type} (f : α → ByteArray) (B : Nat) (l : List α) (hl : ∀ x ∈ l, (f x).size ≤ B) : ∀ s : ByteArray, (catF f s l).size ≤ s.size + B * l.length := by
 induction l with
 | nil => intro s; simp [catF]
 | cons x r ih =>
  intro s; have h1 := ih (fun y hy => hl y (List.mem_cons_of_mem _ hy)) (s ++ f x); have h2 := hl x List.mem_cons_self; have h3 : catF f s (x :: r) = catF f (s ++ f x) r := rfl; rw [h3]; simp only [ByteArray.size_append, List.length_cons, Nat.mul_add] at h1 ⊢; omega
theorem listS_size (l : List Int) (h : Small l) (hl : l.length ≤ 16) : (listS l).size ≤ 200 := by
 have h1 := catS_size l h (putS l.length); have h2 := putS_size (l.length : Int) (by omega); unfold listS; omega
theorem list_any' (v : Value) (l : List Int) (w : World) (h : IntsAt w v l) (hs : Small l) (hl : l.length ≤ 16) : Calls Tryz.prog 29 #[v] w fun e w' => e = .returned (.string (listS l)) ∧ Below w.heap.size w w' := list_any v l w h hs (by omega)
theorem numS_size (im : ImageD) (h : ImOk im) : (catS BE (numS im)).size ≤ 44 := by
 have h1 := catS_size (numS im) h.nums BE; simpa [numS] using h1
theorem one_size (n : Nat) (h : n ≤ 10000) : (catS BE [(n : Int)]).size ≤ 11 := by
 rw [cat_one]; exact putS_size _ (by omega)
theorem P3_size (im : ImageD) (h : ImOk im) : (P3 im).size ≤ 300 := by
 have h1 := numS_size im h; have h2 := listS_size im.safe h.safe h.sl; have h3 := one_size im.blocks.length (by have := h.bl; omega); have h4 : sigS.size = 4 := rfl; unfold P3; simp only [ByteArray.size_append]; omega
theorem blks_size (im : ImageD) (h : ImOk im) (k : Nat) : (catF listS (P3 im) (im.blocks.take k)).size ≤ 2000 := by
 have h1 := P3_size im h; have h2 := catF_size listS 200 (im.blocks.take k) (fun l hl => by obtain ⟨a, b⟩ := h.blocks l (List.mem_of_mem_take hl); exact listS_size l a b) (P3 im); have h3 := h.bl; have h4 : (im.blocks.take k).length ≤ 8 := by simp; omega
 omega
theorem P5_size (im : ImageD) (h : ImOk im) : (P5 im).size ≤ 2100 := by
 have h1 := blks_size im h im.blocks.length; rw [List.take_length] at h1; have h3 := one_size im.tasks.length (by have := h.tl; omega); unfold P5; simp only [ByteArray.size_append]; omega
theorem taskS_size (t : TaskD) (h : TaskOk t) : (taskS t).size ≤ 4500 := by
 have h1 := catS_size t.nums h.nums BE; have h2 := listS_size t.blocks h.blocks h.bl; have h3 := listS_size t.outs h.outs h.ol; have h4 := putS_size ((catI BE t.code).size : Int) (by have := h.cb; omega); have h5 := h.cb; have h6 : (catS BE t.nums).size ≤ 44 := by simpa [TaskD.nums] using h1
 unfold taskS progS; simp only [ByteArray.size_append]; show (catS BE t.nums).size + _ + _ + _ ≤ _; omega
theorem tsks_size (im : ImageD) (h : ImOk im) (k : Nat) : (catF taskS (P5 im) (im.tasks.take k)).size ≤ 40000 := by
 have h1 := P5_size im h; have h2 := catF_size taskS 4500 (im.tasks.take k) (fun t ht => taskS_size t (h.tasks t (List.mem_of_mem_take ht))) (P5 im); have h3 := h.tl; have h4 : (im.tasks.take k).length ≤ 8 := by simp; omega
 omega
def E1Rel (w : World) (im : ImageD) (As Ab At : Option Addr) (cs cb ct : Nat) (vs vi : Value) (wr : World) : Prop := ∃ k : Nat, k ≤ im.blocks.length ∧ vi = O Y k ∧ vs = .string (catF listS (P3 im) (im.blocks.take k)) ∧ EncSt w wr im As Ab At cs cb ct
def E2Rel (w : World) (im : ImageD) (As Ab At : Option Addr) (cs cb ct : Nat) (vs vi : Value) (wr : World) : Prop := ∃ k : Nat, k ≤ im.tasks.length ∧ vi = O Y k ∧ vs = .string (catF taskS (P5 im) (im.tasks.take k)) ∧ EncSt w wr im As Ab At cs cb ct
structure EncT (W : World) (g : Nat) (t : TaskD) (Av Ao Ac : Option Addr) (cv co cc : Nat) : Prop where
 blk : W.heap[g]? = some (.cells #[O Y t.prio, O Y t.period, O Y t.deadline, O Y t.jitter, .slice Av t.blocks.length cv, .slice Ao t.outs.length co, .slice Ac t.code.length cc] 45 (0, 0))
 bl : IntsAt W (.slice Av t.blocks.length cv) t.blocks
 ol : IntsAt W (.slice Ao t.outs.length co) t.outs
 cl : CodeAt W (.slice Ac t.code.length cc) t.code
theorem EncT.step {W W' : World} {g : Nat} {t : TaskD} {Av Ao Ac : Option Addr} {cv co cc : Nat} (h : EncT W g t Av Ao Ac cv co cc) (hb : Below W.heap.size W W') : EncT W' g t Av Ao Ac cv co cc :=
 ⟨(hb.block _ (ltA h.blk)).trans h.blk, h.bl.step hb, h.ol.step hb, h.cl.step hb⟩
theorem enc_any (im : ImageD) (hi : ImOk im) (hok : im.ok = true) (hsm : im.small) (hsz : (imgS im).size ≤ 500000000) (v : Value) (w : World) (hv : ImageAt w v im) : Calls Tryz.prog 10 #[v] w fun e w' => e = .returned (.string (sealS (imgS im))) ∧ Below w.heap.size w w' := by
 obtain ⟨vs, vb, vt, rfl, h1, h2, h3⟩ := hv; obtain ⟨As, cs, rfl, hs1, hs2, hs3⟩ := h1; obtain ⟨Ab, cb, rfl, hb1, hb2⟩ := h2; obtain ⟨At, ct, rfl, ht1, ht2⟩ := h3; have F0 : EncSt w (w.alloc (.cells #[O Y im.sw, O Y im.la, O Y im.co, O Y im.inp, .slice As im.safe.length cs, .slice Ab im.blocks.length cb, .slice At im.tasks.length ct] 26)) im As Ab At cs cb ct := ⟨heap_alloc_last w _, (show IntsAt w _ _ from ⟨As, cs, rfl, hs1, hs2, hs3⟩).step ((BR _ _).alloc (NR _) _), (show RowsAt w _ _ from ⟨Ab, cb, rfl, hb1, hb2⟩).step ((BR _ _).alloc (NR _) _), (show TasksAt w _ _ from ⟨At, ct, rfl, ht1, ht2⟩).step ((BR _ _).alloc (NR _) _), (BR _ _).alloc (NR _) _⟩
 have hR := ZZ (iright_any im _ (w.alloc (.cells #[O Y im.sw, O Y im.la, O Y im.co, O Y im.inp, .slice As im.safe.length cs, .slice Ab im.blocks.length cb, .slice At im.tasks.length ct] 26)) ⟨_, _, _, rfl, F0.safe, F0.rows, F0.tasks⟩ hsm); have c0 := ZZ F0; clear hs1 hs2 hs3 hb1 hb2 ht1 ht2; rw [hok] at hR; have f0 := F0.blk; have z1 := ZZ (numS_size im hi); have z2 := ZZ (listS_size im.safe hi.safe hi.sl); have z3 := ZZ (one_size im.blocks.length (by have := hi.bl; omega)); replace hi := ZZ hi; clear F0; go_enter Tryz.func10, Tryz.ntmps10; go_wp2_with fail; refine hR.out.mono ?_; rintro e uu ⟨rfl, hb0⟩; have F0 := (c0.out.step hb0).step (BR _ _).drew; clear hb0 c0 hR f0; go_wp2_with fail; refine st 22 (S := fun w' => w'.heap[w.heap.size]? = some (.cells #[O Y im.sw, O Y im.la, O Y im.co, O Y im.inp, .slice As im.safe.length cs, .slice Ab im.blocks.length cb, .slice At im.tasks.length ct] 26 (0, 0))) (ds := []) F0.blk (fun hHeld => ?_); generalize uu.drew = u0 at *; refine pq 0 ?_; refine pq 2 ?_; refine pq 4 ?_; refine pq 6 ?_; refine pq 11 ?_; refine pq 15 ?_; refine tk 1 hHeld ?_ (hy := by intro w' s0; have z : w'.cell? ⟨w.heap.size, 0, none⟩ = some (O Y im.sw) := (blk_cell s0 0).trans rfl; go_simp; first | with_reducible rfl | rfl); refine tk 3 hHeld ?_ (hy := by intro w' s0; have z : w'.cell? ⟨w.heap.size, 1, none⟩ = some (O Y im.la) := (blk_cell s0 1).trans rfl; go_simp; first | with_reducible rfl | rfl); refine tk 5 hHeld ?_ (hy := by intro w' s0; have z : w'.cell? ⟨w.heap.size, 2, none⟩ = some (O Y im.co) := (blk_cell s0 2).trans rfl; go_simp; first | with_reducible rfl | rfl); refine tk 7 hHeld ?_ (hy := by intro w' s0; have z : w'.cell? ⟨w.heap.size, 3, none⟩ = some (O Y im.inp) := (blk_cell s0 3).trans rfl; go_simp; first | with_reducible rfl | rfl); refine tk 12 hHeld ?_ (hy := by intro w' s0; have z : w'.cell? ⟨w.heap.size, 4, none⟩ = some (.slice As im.safe.length cs) := (blk_cell s0 4).trans rfl; go_simp; first | with_reducible rfl | rfl); refine tk 16 hHeld ?_ (hy := by intro w' s0; have z : w'.cell? ⟨w.heap.size, 5, none⟩ = some (.slice Ab im.blocks.length cb) := (blk_cell s0 5).trans rfl; go_simp; first | with_reducible rfl | rfl); refine pq 17 ?_; refine join_ (σ := Value × Value) 3 #[true, true, true, true, true, true, true, true, true, true, true, true, true, true, true, true, true, true, true, false, false, false] (fun s => [(20, s.1), (21, .string (catS BE (numS im))), (22, .string ((⟨#[80, 76, 67, 49]⟩ : ByteArray) ++ catS BE (numS im))), (25, .string (listS im.safe)), (26, .string ((⟨#[80, 76, 67, 49]⟩ : ByteArray) ++ catS BE (numS im) ++ listS im.safe)), (30, s.2)]) (fun s w' => EncSt w w' im As Ab At cs cb ct ∧ IntsAt w' s.2 [(im.blocks.length : Int)]) ?_ (fun hJ => ?_); rotate_left
 · skip; refine two_ (i := 8) (j := 18) (Ni := some 20) (Nj := some 30) #[true, true, true, true, true, true, true, true, true, false, false, true, true, false, false, true, true, true, false, false, false, false] #[true, true, true, true, true, true, true, true, false, false, false, true, true, false, false, true, true, true, true, false, false, false] rfl rfl rfl rfl (by kernel_rfl) (by decide) (by decide) (fun K hK => ?_) (fun K hK => ?_)
   · skip; refine value_ (w1 := ?_) (v := ?_) (by rfl) rfl ?_ ?_; rotate_left 2
     · go_simp; constructor
       · rfl
       · rfl
     obtain ⟨u1, hu1⟩ : ∃ W, u0.alloc (.cells #[O Y im.sw, O Y im.la, O Y im.co, O Y im.inp] 3) = W := ⟨_, rfl⟩
     have hb1 : Below u0.heap.size u0 u1 := by rw [← hu1]; exact (BR _ _).alloc (NR _) _
     have F1 := F0.step hb1; try have p18_1 := p18_0.step hb1
     have p8_1 : IntsAt u1 (.slice (some ⟨u0.heap.size, 0, none⟩) 4 4) (numS im) := by rw [← hu1]; exact ints_new u0 (numS im) 3 (by simp [numS, TaskD.nums])
     try rw [hu1]
     clear hu1; refine hK.out _ _ F1.blk (fun hHeld => ?_); clear hK K; refine nm ?_; refine two_ (i := 9) (j := 18) (Ni := some 21) (Nj := some 30) #[true, true, true, true, true, true, true, true, true, true, false, true, true, false, false, true, true, true, false, false, false, false] #[true, true, true, true, true, true, true, true, true, false, false, true, true, false, false, true, true, true, true, false, false, false] rfl rfl rfl rfl (by kernel_rfl) (by decide) (by decide) (fun K hK => ?_) (fun K hK => ?_)
     · skip; refine goes_ Tryz.func28 (by kernel_rfl) rfl #[.slice (some ⟨u0.heap.size, 0, none⟩) 4 4] (by rfl) rfl rfl (by (try simp only [MA, List.map_cons, List.map_nil]); first | done | rfl) ?_; refine (puts_any _ (numS im) u1 p8_1 hi.out.nums (by simp [numS])).mono ?_; rintro e u2 ⟨rfl, hb2⟩; refine ⟨_, rfl, ?_⟩; have F2 := F1.step hb2; try have p8_2 := p8_1.step hb2
       try have p18_2 := p18_1.step hb2
       refine hK.out _ _ F2.blk (fun hHeld => ?_); clear hK K; refine nm ?_; refine pq 10 ?_ (v := .string ((⟨#[80, 76, 67, 49]⟩ : ByteArray) ++ catS BE (numS im))) (hy := by intro w'; go_simp; have := z1.out; have := z2.out; have := z3.out; omega); refine two_ (i := 13) (j := 18) (Ni := some 25) (Nj := some 30) #[true, true, true, true, true, true, true, true, true, true, true, true, true, true, false, true, true, true, false, false, false, false] #[true, true, true, true, true, true, true, true, true, true, true, true, true, false, false, true, true, true, true, false, false, false] rfl rfl rfl rfl (by kernel_rfl) (by decide) (by decide) (fun K hK => ?_) (fun K hK => ?_)
       · skip; refine goes_ Tryz.func29 (by kernel_rfl) rfl #[.slice As im.safe.length cs] (by rfl) rfl rfl (by (try simp only [MA, List.map_cons, List.map_nil]); first | done | rfl) ?_; refine (list_any' _ im.safe u2 F2.safe hi.out.safe hi.out.sl).mono ?_; rintro e u3 ⟨rfl, hb3⟩; refine ⟨_, rfl, ?_⟩; have F3 := F2.step hb3; try have p8_3 := p8_2.step hb3
         try have p18_3 := p18_2.step hb3
         refine hK.out _ _ F3.blk (fun hHeld => ?_); clear hK K; refine nm ?_; refine pq 14 ?_ (v := .string ((⟨#[80, 76, 67, 49]⟩ : ByteArray) ++ catS BE (numS im) ++ listS im.safe)) (hy := by intro w'; go_simp; have := z1.out; have := z2.out; have := z3.out; omega); refine rg1 18 (fun K hK => ?_); refine value_ (w1 := ?_) (v := ?_) (by rfl) rfl ?_ ?_; rotate_left 2
         · go_simp; constructor
           · rfl
           · rfl
         obtain ⟨u4, hu4⟩ : ∃ W, u3.alloc (.cells #[O Y (im.blocks.length : Int)] 3) = W := ⟨_, rfl⟩
         have hb4 : Below u3.heap.size u3 u4 := by rw [← hu4]; exact (BR _ _).alloc (NR _) _
         have F4 := F3.step hb4; try have p8_4 := p8_3.step hb4
         have p18_4 : IntsAt u4 (.slice (some ⟨u3.heap.size, 0, none⟩) 1 1) [(im.blocks.length : Int)] := by rw [← hu4]; exact ints_new u3 [(im.blocks.length : Int)] 3 (by simp [numS, TaskD.nums])
         try rw [hu4]
         clear hu4; refine hK.out _ _ F4.blk (fun hHeld => ?_); clear hK K; refine nm ?_; have hq := hJ (.slice (some ⟨u0.heap.size, 0, none⟩) 4 4, .slice (some ⟨u3.heap.size, 0, none⟩) 1 1) u4 ⟨F4, p18_4⟩; simp only [putAll, Act.put, List.setIfInBounds_toArray, List.set_cons_zero, List.set_cons_succ] at hq; exact hq
       · skip; refine value_ (w1 := ?_) (v := ?_) (by rfl) rfl ?_ ?_; rotate_left 2
         · go_simp; constructor
           · rfl
           · rfl
         obtain ⟨u3, hu3⟩ : ∃ W, u2.alloc (.cells #[O Y (im.blocks.length : Int)] 3) = W := ⟨_, rfl⟩
         have hb3 : Below u2.heap.size u2 u3 := by rw [← hu3]; exact (BR _ _).alloc (NR _) _
         have F3 := F2.step hb3; try have p8_3 := p8_2.step hb3
         have p18_3 : IntsAt u3 (.slice (some ⟨u2.heap.size, 0, none⟩) 1 1) [(im.blocks.length : Int)] := by rw [← hu3]; exact ints_new u2 [(im.blocks.length : Int)] 3 (by simp [numS, TaskD.nums])
         try rw [hu3]
         clear hu3; refine hK.out _ _ F3.blk (fun hHeld => ?_); clear hK K; refine nm ?_; refine rg1 13 (fun K hK => ?_); refine goes_ Tryz.func29 (by kernel_rfl) rfl #[.slice As im.safe.length cs] (by rfl) rfl rfl (by (try simp only [MA, List.map_cons, List.map_nil]); first | done | rfl) ?_; refine (list_any' _ im.safe u3 F3.safe hi.out.safe hi.out.sl).mono ?_; rintro e u4 ⟨rfl, hb4⟩; refine ⟨_, rfl, ?_⟩; have F4 := F3.step hb4; try have p8_4 := p8_3.step hb4
         try have p18_4 := p18_3.step hb4
         refine hK.out _ _ F4.blk (fun hHeld => ?_); clear hK K; refine nm ?_; refine pq 14 ?_ (v := .string ((⟨#[80, 76, 67, 49]⟩ : ByteArray) ++ catS BE (numS im) ++ listS im.safe)) (hy := by intro w'; go_simp; have := z1.out; have := z2.out; have := z3.out; omega); have hq := hJ (.slice (some ⟨u0.heap.size, 0, none⟩) 4 4, .slice (some ⟨u2.heap.size, 0, none⟩) 1 1) u4 ⟨F4, p18_4⟩; simp only [putAll, Act.put, List.setIfInBounds_toArray, List.set_cons_zero, List.set_cons_succ] at hq; exact hq
     · skip; refine value_ (w1 := ?_) (v := ?_) (by rfl) rfl ?_ ?_; rotate_left 2
       · go_simp; constructor
         · rfl
         · rfl
       obtain ⟨u2, hu2⟩ : ∃ W, u1.alloc (.cells #[O Y (im.blocks.length : Int)] 3) = W := ⟨_, rfl⟩
       have hb2 : Below u1.heap.size u1 u2 := by rw [← hu2]; exact (BR _ _).alloc (NR _) _
       have F2 := F1.step hb2; try have p8_2 := p8_1.step hb2
       have p18_2 : IntsAt u2 (.slice (some ⟨u1.heap.size, 0, none⟩) 1 1) [(im.blocks.length : Int)] := by rw [← hu2]; exact ints_new u1 [(im.blocks.length : Int)] 3 (by simp [numS, TaskD.nums])
       try rw [hu2]
       clear hu2; refine hK.out _ _ F2.blk (fun hHeld => ?_); clear hK K; refine nm ?_; refine rg1 9 (fun K hK => ?_); refine goes_ Tryz.func28 (by kernel_rfl) rfl #[.slice (some ⟨u0.heap.size, 0, none⟩) 4 4] (by rfl) rfl rfl (by (try simp only [MA, List.map_cons, List.map_nil]); first | done | rfl) ?_; refine (puts_any _ (numS im) u2 p8_2 hi.out.nums (by simp [numS])).mono ?_; rintro e u3 ⟨rfl, hb3⟩; refine ⟨_, rfl, ?_⟩; have F3 := F2.step hb3; try have p8_3 := p8_2.step hb3
       try have p18_3 := p18_2.step hb3
       refine hK.out _ _ F3.blk (fun hHeld => ?_); clear hK K; refine nm ?_; refine pq 10 ?_ (v := .string ((⟨#[80, 76, 67, 49]⟩ : ByteArray) ++ catS BE (numS im))) (hy := by intro w'; go_simp; have := z1.out; have := z2.out; have := z3.out; omega); refine rg1 13 (fun K hK => ?_); refine goes_ Tryz.func29 (by kernel_rfl) rfl #[.slice As im.safe.length cs] (by rfl) rfl rfl (by (try simp only [MA, List.map_cons, List.map_nil]); first | done | rfl) ?_; refine (list_any' _ im.safe u3 F3.safe hi.out.safe hi.out.sl).mono ?_; rintro e u4 ⟨rfl, hb4⟩; refine ⟨_, rfl, ?_⟩; have F4 := F3.step hb4; try have p8_4 := p8_3.step hb4
       try have p18_4 := p18_3.step hb4
       refine hK.out _ _ F4.blk (fun hHeld => ?_); clear hK K; refine nm ?_; refine pq 14 ?_ (v := .string ((⟨#[80, 76, 67, 49]⟩ : ByteArray) ++ catS BE (numS im) ++ listS im.safe)) (hy := by intro w'; go_simp; have := z1.out; have := z2.out; have := z3.out; omega); have hq := hJ (.slice (some ⟨u0.heap.size, 0, none⟩) 4 4, .slice (some ⟨u1.heap.size, 0, none⟩) 1 1) u4 ⟨F4, p18_4⟩; simp only [putAll, Act.put, List.setIfInBounds_toArray, List.set_cons_zero, List.set_cons_succ] at hq; exact hq
   · skip; refine value_ (w1 := ?_) (v := ?_) (by rfl) rfl ?_ ?_; rotate_left 2
     · go_simp; constructor
       · rfl
       · rfl
     obtain ⟨u1, hu1⟩ : ∃ W, u0.alloc (.cells #[O Y (im.blocks.length : Int)] 3) = W := ⟨_, rfl⟩
     have hb1 : Below u0.heap.size u0 u1 := by rw [← hu1]; exact (BR _ _).alloc (NR _) _
     have F1 := F0.step hb1; try have p8_1 := p8_0.step hb1
     have p18_1 : IntsAt u1 (.slice (some ⟨u0.heap.size, 0, none⟩) 1 1) [(im.blocks.length : Int)] := by rw [← hu1]; exact ints_new u0 [(im.blocks.length : Int)] 3 (by simp [numS, TaskD.nums])
     try rw [hu1]
     clear hu1; refine hK.out _ _ F1.blk (fun hHeld => ?_); clear hK K; refine nm ?_; refine rg1 8 (fun K hK => ?_); refine value_ (w1 := ?_) (v := ?_) (by rfl) rfl ?_ ?_; rotate_left 2
     · go_simp; constructor
       · rfl
       · rfl
     obtain ⟨u2, hu2⟩ : ∃ W, u1.alloc (.cells #[O Y im.sw, O Y im.la, O Y im.co, O Y im.inp] 3) = W := ⟨_, rfl⟩
     have hb2 : Below u1.heap.size u1 u2 := by rw [← hu2]; exact (BR _ _).alloc (NR _) _
     have F2 := F1.step hb2; try have p18_2 := p18_1.step hb2
     have p8_2 : IntsAt u2 (.slice (some ⟨u1.heap.size, 0, none⟩) 4 4) (numS im) := by rw [← hu2]; exact ints_new u1 (numS im) 3 (by simp [numS, TaskD.nums])
     try rw [hu2]
     clear hu2; refine hK.out _ _ F2.blk (fun hHeld => ?_); clear hK K; refine nm ?_; refine rg1 9 (fun K hK => ?_); refine goes_ Tryz.func28 (by kernel_rfl) rfl #[.slice (some ⟨u1.heap.size, 0, none⟩) 4 4] (by rfl) rfl rfl (by (try simp only [MA, List.map_cons, List.map_nil]); first | done | rfl) ?_; refine (puts_any _ (numS im) u2 p8_2 hi.out.nums (by simp [numS])).mono ?_; rintro e u3 ⟨rfl, hb3⟩; refine ⟨_, rfl, ?_⟩; have F3 := F2.step hb3; try have p8_3 := p8_2.step hb3
     try have p18_3 := p18_2.step hb3
     refine hK.out _ _ F3.blk (fun hHeld => ?_); clear hK K; refine nm ?_; refine pq 10 ?_ (v := .string ((⟨#[80, 76, 67, 49]⟩ : ByteArray) ++ catS BE (numS im))) (hy := by intro w'; go_simp; have := z1.out; have := z2.out; have := z3.out; omega); refine rg1 13 (fun K hK => ?_); refine goes_ Tryz.func29 (by kernel_rfl) rfl #[.slice As im.safe.length cs] (by rfl) rfl rfl (by (try simp only [MA, List.map_cons, List.map_nil]); first | done | rfl) ?_; refine (list_any' _ im.safe u3 F3.safe hi.out.safe hi.out.sl).mono ?_; rintro e u4 ⟨rfl, hb4⟩; refine ⟨_, rfl, ?_⟩; have F4 := F3.step hb4; try have p8_4 := p8_3.step hb4
     try have p18_4 := p18_3.step hb4
     refine hK.out _ _ F4.blk (fun hHeld => ?_); clear hK K; refine nm ?_; refine pq 14 ?_ (v := .string ((⟨#[80, 76, 67, 49]⟩ : ByteArray) ++ catS BE (numS im) ++ listS im.safe)) (hy := by intro w'; go_simp; have := z1.out; have := z2.out; have := z3.out; omega); have hq := hJ (.slice (some ⟨u1.heap.size, 0, none⟩) 4 4, .slice (some ⟨u0.heap.size, 0, none⟩) 1 1) u4 ⟨F4, p18_4⟩; simp only [putAll, Act.put, List.setIfInBounds_toArray, List.set_cons_zero, List.set_cons_succ] at hq; exact hq
 rintro ⟨s8, s18⟩ u9 ⟨F9, p18_9⟩; refine norm_ (a' := ?_) ?_ ?_; rotate_left
 · show putAll _ _ = _; simp only [putAll, Act.put, List.setIfInBounds_toArray, List.set_cons_zero, List.set_cons_succ]; rfl
 refine rg1 19 (fun K hK => ?_); refine goes_ Tryz.func28 (by kernel_rfl) rfl #[s18] (by rfl) rfl rfl (by (try simp only [MA, List.map_cons, List.map_nil]); first | done | rfl) ?_; refine (puts_any _ [(im.blocks.length : Int)] u9 p18_9 (by intro n hn; simp at hn; have := hi.out.bl; omega) (by simp)).mono ?_; rintro e u10 ⟨rfl, hb10⟩; refine ⟨_, rfl, ?_⟩; have F10 := F9.step hb10; refine hK.out _ _ F10.blk (fun hHeld => ?_); clear hK K; refine nm ?_; refine pq 20 ?_ (v := .string ((⟨#[80, 76, 67, 49]⟩ : ByteArray) ++ catS BE (numS im) ++ listS im.safe ++ catS BE [(im.blocks.length : Int)])) (hy := by intro w'; go_simp; have := z1.out; have := z2.out; have := z3.out; omega); refine pq 21 ?_; refine dn ?_; replace F10 := ZZ F10; have hP3 : ({ data := #[80, 76, 67, 49] } : ByteArray) ++ catS BE (numS im) ++ listS im.safe ++ catS BE [(im.blocks.length : Int)] = P3 im := rfl; rw [hP3]; clear hHeld F9 p18_9 hP3 hb10; have c5 := F10.out.cell 5 _ rfl; have hu10 : u10 = u10 := rfl; go_wp2_with fail; clear c5 z1 z2 z3 hu10; go_loopw [3, 36] (fun vs vi wr => E1Rel w im As Ab At cs cb ct vs vi wr) (fun _ vi _ => im.blocks.length - (intOf vi).toNat); case atStart => exact ⟨0, by omega, rfl, rfl, F10.out⟩
 case round =>
  obtain ⟨k, hk, rfl, rfl, hF⟩ := hrel; replace hF := ZZ hF; by_cases hd : k < im.blocks.length
  · obtain ⟨l, hl⟩ : ∃ l, im.blocks[k]? = some l := ⟨_, GE hd⟩
    have b1 : ((k : Nat) : Int) < (im.blocks.length : Int) := by omega
    have b2 : decide (im.blocks.length ≤ k) = false := decide_eq_false (by omega); have hbl := hi.out.bl; have hk9 : (k : Int) ≤ 8 := by omega
    obtain ⟨A', c', e', hc', hrow⟩ := hF.out.rows; injection e' with e1 e2 e3
    subst e1; clear e2 e3; obtain ⟨ad, u, rfl, hcell, hu⟩ := hrow k l hl; obtain ⟨Au, cu, rfl, hu2⟩ := id hu; obtain ⟨hlb, hll⟩ := hi.out.blocks l (LM hl); have hL := ZZ (list_any' _ l wr hu hlb hll); have hsz : ¬ 9223372036854775807 < (catF listS (P3 im) (im.blocks.take k)).size + (listS l).size := by
     have q1 := blks_size im hi.out k; have q2 := listS_size l hlb hll; omega
    have hn := ZZ ((catF_snoc listS (P3 im) (im.blocks.take k) l).symm.trans (congrArg (catF listS (P3 im)) (take_next im.blocks k l hl).symm)); replace hd := ZZ hd; clear hrow hu hu2 hlb hll hl hk hbl hc'; go_wp2_with fail; refine hL.out.mono ?_; rintro e w2 ⟨rfl, hb2⟩; have hF2 := ZZ (hF.out.step hb2); clear hb2 hL hcell; go_wp2_with fail; exact ⟨⟨k + 1, hd.out, by go_num, by rw [hn.out], hF2.out⟩, by have := hd.out; simp [intOf]; omega⟩
  · have hke : k = im.blocks.length := by omega
    subst hke; have b1 : ¬ (((im.blocks.length : Nat) : Int) < (im.blocks.length : Int)) := by omega
    rw [List.take_length]; have c6 := hF.out.cell 6 _ rfl; have hF2 := hF.out.step ((BR _ _).alloc (NR _) (.cells #[O Y (im.tasks.length : Int)] 3)); have hP := ZZ (puts_any _ [(im.tasks.length : Int)] _ (ints_new wr [(im.tasks.length : Int)] 3 (by simp)) (by intro n hn; simp at hn; have := hi.out.tl; omega) (by simp)); have hsz : ¬ 9223372036854775807 < (catF listS (P3 im) im.blocks).size + (catS BE [(im.tasks.length : Int)]).size := by
     have q1 := blks_size im hi.out im.blocks.length; rw [List.take_length] at q1; have q2 := one_size im.tasks.length (by have := hi.out.tl; omega); omega
    replace hF2 := ZZ hF2; clear hk hd hF; go_wp2_with fail; refine hP.out.mono ?_; rintro e w2 ⟨rfl, hb2⟩; have hF3 := ZZ (hF2.out.step hb2); have c6 := hF3.out.cell 6 _ rfl; clear hb2 hP hF2; go_wp2_with fail; rw [show catF listS (P3 im) im.blocks ++ catS BE [(im.tasks.length : Int)] = P5 im from rfl]; clear hsz b1 c6; go_loopw [3, 55] (fun vs vi wr => E2Rel w im As Ab At cs cb ct vs vi wr) (fun _ vi _ => im.tasks.length - (intOf vi).toNat); case atStart => exact ⟨0, by omega, rfl, rfl, hF3.out⟩
    case round =>
     obtain ⟨k, hk, rfl, rfl, hF⟩ := hrel; replace hF := ZZ hF; by_cases hd : k < im.tasks.length
     · obtain ⟨t, ht⟩ : ∃ t, im.tasks[k]? = some t := ⟨_, GE hd⟩
       have b1 : ((k : Nat) : Int) < (im.tasks.length : Int) := by omega
       have b2 : decide (im.tasks.length ≤ k) = false := decide_eq_false (by omega); have htl := hi.out.tl; have hk9 : (k : Int) ≤ 8 := by omega
       obtain ⟨A', c', e', hc', hrow⟩ := hF.out.tasks; injection e' with e1 e2 e3
       subst e1; clear e2 e3; obtain ⟨ad, rfl, hta⟩ := hrow k t ht; obtain ⟨vb, vo, vc, t0, t1, t2, t3, t4, t5, t6, t7, t8, t9⟩ := hta; obtain ⟨Av, cv, rfl, t7'⟩ := id t7; obtain ⟨Ao, co, rfl, t8'⟩ := id t8; obtain ⟨Ac, cc, rfl, t9'⟩ := id t9; have hto := ZZ (hi.out.tasks t (LM ht)); have T789 := ZZ (And.intro t7 (And.intro t8 t9)); have hn := ZZ ((catF_snoc taskS (P5 im) (im.tasks.take k) t).symm.trans (congrArg (catF taskS (P5 im)) (take_next im.tasks k t ht).symm)); replace hd := ZZ hd; have y0 := ZZ (tsks_size im hi.out k); have hcb := codeB_eq hto.out; obtain ⟨x, hx⟩ : ∃ x, catI BE t.code = x := ⟨_, rfl⟩
       have y5 := ZZ (show x.size ≤ 4000 by rw [← hx]; exact hto.out.cb); have y4 := ZZ (one_size x.size (by have := y5.out; omega)); have y3 := ZZ (listS_size t.outs hto.out.outs hto.out.ol); have y2 := ZZ (listS_size t.blocks hto.out.blocks hto.out.bl); have y1 := ZZ (show (catS BE t.nums).size ≤ 44 by have h1 := catS_size t.nums hto.out.nums BE; simpa [TaskD.nums] using h1); have htx := ZZ (taskS_eq t x hx); rw [hx] at hcb; have al := (BR wr.heap.size wr).alloc (NR _) (.cells #[O Y t.prio, O Y t.period, O Y t.deadline, O Y t.jitter, .slice Av t.blocks.length cv, .slice Ao t.outs.length co, .slice Ac t.code.length cc] 45); have FA := ZZ (And.intro (hF.out.step al) (show EncT (wr.alloc (.cells #[O Y t.prio, O Y t.period, O Y t.deadline, O Y t.jitter, .slice Av t.blocks.length cv, .slice Ao t.outs.length co, .slice Ac t.code.length cc] 45)) wr.heap.size t Av Ao Ac cv co cc from ⟨heap_alloc_last wr _, t7.step al, t8.step al, t9.step al⟩)); have hC := code_any (.slice Ac t.code.length cc) t.code (wr.alloc (.cells #[O Y t.prio, O Y t.period, O Y t.deadline, O Y t.jitter, .slice Av t.blocks.length cv, .slice Ao t.outs.length co, .slice Ac t.code.length cc] 45)) FA.out.2.cl hto.out.cs; rw [hcb] at hC; replace hC := ZZ hC; have d6 := bk FA.out.2.blk 6 (.slice Ac t.code.length cc); clear t7 t8 t9 t7' t8' t9' hrow ht hk htl hc' al hcb hx T789; go_wp2_with fail; refine hC.out.mono ?_; rintro e uu ⟨rfl, hb0⟩; generalize hgg : wr.heap.size = g at *; have F0 := And.intro ((FA.out.1.step hb0).step (BR _ _).drew) ((FA.out.2.step hb0).step (BR _ _).drew); clear t0 t1 t2 t3 t4 t5 t6 hC hb0 FA d6 hgg hF hF3 F10 hHeld; go_wp2_with fail; refine st 28 (S := fun w' => w'.heap[g]? = some (.cells #[O Y t.prio, O Y t.period, O Y t.deadline, O Y t.jitter, .slice Av t.blocks.length cv, .slice Ao t.outs.length co, .slice Ac t.code.length cc] 45 (0, 0))) (ds := []) F0.2.blk (fun hHeld => ?_); generalize uu.drew = u0 at *; refine pq 0 ?_; refine pq 1 ?_; refine pq 3 ?_; refine pq 5 ?_; refine pq 7 ?_; refine pq 11 ?_; refine pq 15 ?_; refine pq 19 ?_; refine pq 20 ?_; refine pq 24 ?_; refine tk 2 hHeld ?_ (hy := by intro w' s0; have z : w'.cell? ⟨g, 0, none⟩ = some (O Y t.prio) := (blk_cell s0 0).trans rfl; go_simp; first | with_reducible rfl | rfl); refine tk 4 hHeld ?_ (hy := by intro w' s0; have z : w'.cell? ⟨g, 1, none⟩ = some (O Y t.period) := (blk_cell s0 1).trans rfl; go_simp; first | with_reducible rfl | rfl); refine tk 6 hHeld ?_ (hy := by intro w' s0; have z : w'.cell? ⟨g, 2, none⟩ = some (O Y t.deadline) := (blk_cell s0 2).trans rfl; go_simp; first | with_reducible rfl | rfl); refine tk 8 hHeld ?_ (hy := by intro w' s0; have z : w'.cell? ⟨g, 3, none⟩ = some (O Y t.jitter) := (blk_cell s0 3).trans rfl; go_simp; first | with_reducible rfl | rfl); refine tk 12 hHeld ?_ (hy := by intro w' s0; have z : w'.cell? ⟨g, 4, none⟩ = some (.slice Av t.blocks.length cv) := (blk_cell s0 4).trans rfl; go_simp; first | with_reducible rfl | rfl); refine tk 16 hHeld ?_ (hy := by intro w' s0; have z : w'.cell? ⟨g, 5, none⟩ = some (.slice Ao t.outs.length co) := (blk_cell s0 5).trans rfl; go_simp; first | with_reducible rfl | rfl); refine join_ (σ := Value × Value) 5 #[true, true, true, true, true, true, true, true, true, true, true, true, true, true, true, true, true, true, true, true, true, true, false, false, true, false, false, false] (fun s => [(71, s.1), (72, .string (catS BE t.nums)), (75, .string (listS t.blocks)), (76, .string (catS BE t.nums ++ listS t.blocks)), (79, .string (listS t.outs)), (80, .string (catS BE t.nums ++ listS t.blocks ++ listS t.outs)), (83, s.2)]) (fun s w' => (EncSt w w' im As Ab (some ad) cs cb ct ∧ EncT w' g t Av Ao Ac cv co cc) ∧ IntsAt w' s.2 [(x.size : Int)]) ?_ (fun hJ => ?_); rotate_left
       · skip; refine two_ (i := 9) (j := 21) (Ni := some 71) (Nj := some 83) #[true, true, true, true, true, true, true, true, true, true, false, true, true, false, false, true, true, false, false, true, true, false, false, false, true, false, false, false] #[true, true, true, true, true, true, true, true, true, false, false, true, true, false, false, true, true, false, false, true, true, true, false, false, true, false, false, false] rfl rfl rfl rfl (by kernel_rfl) (by decide) (by decide) (fun K hK => ?_) (fun K hK => ?_)
         · skip; refine value_ (w1 := ?_) (v := ?_) (by rfl) rfl ?_ ?_; rotate_left 2
           · go_simp; constructor
             · rfl
             · rfl
           obtain ⟨u1, hu1⟩ : ∃ W, u0.alloc (.cells #[O Y t.prio, O Y t.period, O Y t.deadline, O Y t.jitter] 3) = W := ⟨_, rfl⟩
           have hb1 : Below u0.heap.size u0 u1 := by rw [← hu1]; exact (BR _ _).alloc (NR _) _
           have F1 := And.intro (F0.1.step hb1) (F0.2.step hb1); try have p21_1 := p21_0.step hb1
           have p9_1 : IntsAt u1 (.slice (some ⟨u0.heap.size, 0, none⟩) 4 4) t.nums := by rw [← hu1]; exact ints_new u0 t.nums 3 (by simp [numS, TaskD.nums])
           try rw [hu1]
           clear hu1; refine hK.out _ _ F1.2.blk (fun hHeld => ?_); clear hK K; refine nm ?_; refine two_ (i := 10) (j := 21) (Ni := some 72) (Nj := some 83) #[true, true, true, true, true, true, true, true, true, true, true, true, true, false, false, true, true, false, false, true, true, false, false, false, true, false, false, false] #[true, true, true, true, true, true, true, true, true, true, false, true, true, false, false, true, true, false, false, true, true, true, false, false, true, false, false, false] rfl rfl rfl rfl (by kernel_rfl) (by decide) (by decide) (fun K hK => ?_) (fun K hK => ?_)
           · skip; refine goes_ Tryz.func28 (by kernel_rfl) rfl #[.slice (some ⟨u0.heap.size, 0, none⟩) 4 4] (by rfl) rfl rfl (by (try simp only [MA, List.map_cons, List.map_nil]); first | done | rfl) ?_; refine (puts_any _ t.nums u1 p9_1 hto.out.nums (by simp [TaskD.nums])).mono ?_; rintro e u2 ⟨rfl, hb2⟩; refine ⟨_, rfl, ?_⟩; have F2 := And.intro (F1.1.step hb2) (F1.2.step hb2); try have p9_2 := p9_1.step hb2
             try have p21_2 := p21_1.step hb2
             refine hK.out _ _ F2.2.blk (fun hHeld => ?_); clear hK K; refine nm ?_; refine two_ (i := 13) (j := 21) (Ni := some 75) (Nj := some 83) #[true, true, true, true, true, true, true, true, true, true, true, true, true, true, false, true, true, false, false, true, true, false, false, false, true, false, false, false] #[true, true, true, true, true, true, true, true, true, true, true, true, true, false, false, true, true, false, false, true, true, true, false, false, true, false, false, false] rfl rfl rfl rfl (by kernel_rfl) (by decide) (by decide) (fun K hK => ?_) (fun K hK => ?_)
             · skip; refine goes_ Tryz.func29 (by kernel_rfl) rfl #[.slice Av t.blocks.length cv] (by rfl) rfl rfl (by (try simp only [MA, List.map_cons, List.map_nil]); first | done | rfl) ?_; refine (list_any' _ t.blocks u2 F2.2.bl hto.out.blocks hto.out.bl).mono ?_; rintro e u3 ⟨rfl, hb3⟩; refine ⟨_, rfl, ?_⟩; have F3 := And.intro (F2.1.step hb3) (F2.2.step hb3); try have p9_3 := p9_2.step hb3
               try have p21_3 := p21_2.step hb3
               refine hK.out _ _ F3.2.blk (fun hHeld => ?_); clear hK K; refine nm ?_; refine pq 14 ?_ (v := .string (catS BE t.nums ++ listS t.blocks)) (hy := by intro w'; go_simp; have := y0.out; have := y1.out; have := y2.out; have := y3.out; have := y4.out; have := y5.out; omega); refine two_ (i := 17) (j := 21) (Ni := some 79) (Nj := some 83) #[true, true, true, true, true, true, true, true, true, true, true, true, true, true, true, true, true, true, false, true, true, false, false, false, true, false, false, false] #[true, true, true, true, true, true, true, true, true, true, true, true, true, true, true, true, true, false, false, true, true, true, false, false, true, false, false, false] rfl rfl rfl rfl (by kernel_rfl) (by decide) (by decide) (fun K hK => ?_) (fun K hK => ?_)
               · skip; refine goes_ Tryz.func29 (by kernel_rfl) rfl #[.slice Ao t.outs.length co] (by rfl) rfl rfl (by (try simp only [MA, List.map_cons, List.map_nil]); first | done | rfl) ?_; refine (list_any' _ t.outs u3 F3.2.ol hto.out.outs hto.out.ol).mono ?_; rintro e u4 ⟨rfl, hb4⟩; refine ⟨_, rfl, ?_⟩; have F4 := And.intro (F3.1.step hb4) (F3.2.step hb4); try have p9_4 := p9_3.step hb4
                 try have p21_4 := p21_3.step hb4
                 refine hK.out _ _ F4.2.blk (fun hHeld => ?_); clear hK K; refine nm ?_; refine pq 18 ?_ (v := .string (catS BE t.nums ++ listS t.blocks ++ listS t.outs)) (hy := by intro w'; go_simp; have := y0.out; have := y1.out; have := y2.out; have := y3.out; have := y4.out; have := y5.out; omega); refine rg1 21 (fun K hK => ?_); refine value_ (w1 := ?_) (v := ?_) (by rfl) rfl ?_ ?_; rotate_left 2
                 · go_simp; constructor
                   · rfl
                   · rfl
                 obtain ⟨u5, hu5⟩ : ∃ W, u4.alloc (.cells #[O Y (x.size : Int)] 3) = W := ⟨_, rfl⟩
                 have hb5 : Below u4.heap.size u4 u5 := by rw [← hu5]; exact (BR _ _).alloc (NR _) _
                 have F5 := And.intro (F4.1.step hb5) (F4.2.step hb5); try have p9_5 := p9_4.step hb5
                 have p21_5 : IntsAt u5 (.slice (some ⟨u4.heap.size, 0, none⟩) 1 1) [(x.size : Int)] := by rw [← hu5]; exact ints_new u4 [(x.size : Int)] 3 (by simp [numS, TaskD.nums])
                 try rw [hu5]
                 clear hu5; refine hK.out _ _ F5.2.blk (fun hHeld => ?_); clear hK K; refine nm ?_; have hq := hJ (.slice (some ⟨u0.heap.size, 0, none⟩) 4 4, .slice (some ⟨u4.heap.size, 0, none⟩) 1 1) u5 ⟨F5, p21_5⟩; simp only [putAll, Act.put, List.setIfInBounds_toArray, List.set_cons_zero, List.set_cons_succ] at hq; exact hq
               · skip; refine value_ (w1 := ?_) (v := ?_) (by rfl) rfl ?_ ?_; rotate_left 2
                 · go_simp; constructor
                   · rfl
                   · rfl
                 obtain ⟨u4, hu4⟩ : ∃ W, u3.alloc (.cells #[O Y (x.size : Int)] 3) = W := ⟨_, rfl⟩
                 have hb4 : Below u3.heap.size u3 u4 := by rw [← hu4]; exact (BR _ _).alloc (NR _) _
                 have F4 := And.intro (F3.1.step hb4) (F3.2.step hb4); try have p9_4 := p9_3.step hb4
                 have p21_4 : IntsAt u4 (.slice (some ⟨u3.heap.size, 0, none⟩) 1 1) [(x.size : Int)] := by rw [← hu4]; exact ints_new u3 [(x.size : Int)] 3 (by simp [numS, TaskD.nums])
                 try rw [hu4]
                 clear hu4; refine hK.out _ _ F4.2.blk (fun hHeld => ?_); clear hK K; refine nm ?_; refine rg1 17 (fun K hK => ?_); refine goes_ Tryz.func29 (by kernel_rfl) rfl #[.slice Ao t.outs.length co] (by rfl) rfl rfl (by (try simp only [MA, List.map_cons, List.map_nil]); first | done | rfl) ?_; refine (list_any' _ t.outs u4 F4.2.ol hto.out.outs hto.out.ol).mono ?_; rintro e u5 ⟨rfl, hb5⟩; refine ⟨_, rfl, ?_⟩; have F5 := And.intro (F4.1.step hb5) (F4.2.step hb5); try have p9_5 := p9_4.step hb5
                 try have p21_5 := p21_4.step hb5
                 refine hK.out _ _ F5.2.blk (fun hHeld => ?_); clear hK K; refine nm ?_; refine pq 18 ?_ (v := .string (catS BE t.nums ++ listS t.blocks ++ listS t.outs)) (hy := by intro w'; go_simp; have := y0.out; have := y1.out; have := y2.out; have := y3.out; have := y4.out; have := y5.out; omega); have hq := hJ (.slice (some ⟨u0.heap.size, 0, none⟩) 4 4, .slice (some ⟨u3.heap.size, 0, none⟩) 1 1) u5 ⟨F5, p21_5⟩; simp only [putAll, Act.put, List.setIfInBounds_toArray, List.set_cons_zero, List.set_cons_succ] at hq; exact hq
             · skip; refine value_ (w1 := ?_) (v := ?_) (by rfl) rfl ?_ ?_; rotate_left 2
               · go_simp; constructor
                 · rfl
                 · rfl
               obtain ⟨u3, hu3⟩ : ∃ W, u2.alloc (.cells #[O Y (x.size : Int)] 3) = W := ⟨_, rfl⟩
               have hb3 : Below u2.heap.size u2 u3 := by rw [← hu3]; exact (BR _ _).alloc (NR _) _
               have F3 := And.intro (F2.1.step hb3) (F2.2.step hb3); try have p9_3 := p9_2.step hb3
               have p21_3 : IntsAt u3 (.slice (some ⟨u2.heap.size, 0, none⟩) 1 1) [(x.size : Int)] := by rw [← hu3]; exact ints_new u2 [(x.size : Int)] 3 (by simp [numS, TaskD.nums])
               try rw [hu3]
               clear hu3; refine hK.out _ _ F3.2.blk (fun hHeld => ?_); clear hK K; refine nm ?_; refine rg1 13 (fun K hK => ?_); refine goes_ Tryz.func29 (by kernel_rfl) rfl #[.slice Av t.blocks.length cv] (by rfl) rfl rfl (by (try simp only [MA, List.map_cons, List.map_nil]); first | done | rfl) ?_; refine (list_any' _ t.blocks u3 F3.2.bl hto.out.blocks hto.out.bl).mono ?_; rintro e u4 ⟨rfl, hb4⟩; refine ⟨_, rfl, ?_⟩; have F4 := And.intro (F3.1.step hb4) (F3.2.step hb4); try have p9_4 := p9_3.step hb4
               try have p21_4 := p21_3.step hb4
               refine hK.out _ _ F4.2.blk (fun hHeld => ?_); clear hK K; refine nm ?_; refine pq 14 ?_ (v := .string (catS BE t.nums ++ listS t.blocks)) (hy := by intro w'; go_simp; have := y0.out; have := y1.out; have := y2.out; have := y3.out; have := y4.out; have := y5.out; omega); refine rg1 17 (fun K hK => ?_); refine goes_ Tryz.func29 (by kernel_rfl) rfl #[.slice Ao t.outs.length co] (by rfl) rfl rfl (by (try simp only [MA, List.map_cons, List.map_nil]); first | done | rfl) ?_; refine (list_any' _ t.outs u4 F4.2.ol hto.out.outs hto.out.ol).mono ?_; rintro e u5 ⟨rfl, hb5⟩; refine ⟨_, rfl, ?_⟩; have F5 := And.intro (F4.1.step hb5) (F4.2.step hb5); try have p9_5 := p9_4.step hb5
               try have p21_5 := p21_4.step hb5
               refine hK.out _ _ F5.2.blk (fun hHeld => ?_); clear hK K; refine nm ?_; refine pq 18 ?_ (v := .string (catS BE t.nums ++ listS t.blocks ++ listS t.outs)) (hy := by intro w'; go_simp; have := y0.out; have := y1.out; have := y2.out; have := y3.out; have := y4.out; have := y5.out; omega); have hq := hJ (.slice (some ⟨u0.heap.size, 0, none⟩) 4 4, .slice (some ⟨u2.heap.size, 0, none⟩) 1 1) u5 ⟨F5, p21_5⟩; simp only [putAll, Act.put, List.setIfInBounds_toArray, List.set_cons_zero, List.set_cons_succ] at hq; exact hq
           · skip; refine value_ (w1 := ?_) (v := ?_) (by rfl) rfl ?_ ?_; rotate_left 2
             · go_simp; constructor
               · rfl
               · rfl
             obtain ⟨u2, hu2⟩ : ∃ W, u1.alloc (.cells #[O Y (x.size : Int)] 3) = W := ⟨_, rfl⟩
             have hb2 : Below u1.heap.size u1 u2 := by rw [← hu2]; exact (BR _ _).alloc (NR _) _
             have F2 := And.intro (F1.1.step hb2) (F1.2.step hb2); try have p9_2 := p9_1.step hb2
             have p21_2 : IntsAt u2 (.slice (some ⟨u1.heap.size, 0, none⟩) 1 1) [(x.size : Int)] := by rw [← hu2]; exact ints_new u1 [(x.size : Int)] 3 (by simp [numS, TaskD.nums])
             try rw [hu2]
             clear hu2; refine hK.out _ _ F2.2.blk (fun hHeld => ?_); clear hK K; refine nm ?_; refine rg1 10 (fun K hK => ?_); refine goes_ Tryz.func28 (by kernel_rfl) rfl #[.slice (some ⟨u0.heap.size, 0, none⟩) 4 4] (by rfl) rfl rfl (by (try simp only [MA, List.map_cons, List.map_nil]); first | done | rfl) ?_; refine (puts_any _ t.nums u2 p9_2 hto.out.nums (by simp [TaskD.nums])).mono ?_; rintro e u3 ⟨rfl, hb3⟩; refine ⟨_, rfl, ?_⟩; have F3 := And.intro (F2.1.step hb3) (F2.2.step hb3); try have p9_3 := p9_2.step hb3
             try have p21_3 := p21_2.step hb3
             refine hK.out _ _ F3.2.blk (fun hHeld => ?_); clear hK K; refine nm ?_; refine rg1 13 (fun K hK => ?_); refine goes_ Tryz.func29 (by kernel_rfl) rfl #[.slice Av t.blocks.length cv] (by rfl) rfl rfl (by (try simp only [MA, List.map_cons, List.map_nil]); first | done | rfl) ?_; refine (list_any' _ t.blocks u3 F3.2.bl hto.out.blocks hto.out.bl).mono ?_; rintro e u4 ⟨rfl, hb4⟩; refine ⟨_, rfl, ?_⟩; have F4 := And.intro (F3.1.step hb4) (F3.2.step hb4); try have p9_4 := p9_3.step hb4
             try have p21_4 := p21_3.step hb4
             refine hK.out _ _ F4.2.blk (fun hHeld => ?_); clear hK K; refine nm ?_; refine pq 14 ?_ (v := .string (catS BE t.nums ++ listS t.blocks)) (hy := by intro w'; go_simp; have := y0.out; have := y1.out; have := y2.out; have := y3.out; have := y4.out; have := y5.out; omega); refine rg1 17 (fun K hK => ?_); refine goes_ Tryz.func29 (by kernel_rfl) rfl #[.slice Ao t.outs.length co] (by rfl) rfl rfl (by (try simp only [MA, List.map_cons, List.map_nil]); first | done | rfl) ?_; refine (list_any' _ t.outs u4 F4.2.ol hto.out.outs hto.out.ol).mono ?_; rintro e u5 ⟨rfl, hb5⟩; refine ⟨_, rfl, ?_⟩; have F5 := And.intro (F4.1.step hb5) (F4.2.step hb5); try have p9_5 := p9_4.step hb5
             try have p21_5 := p21_4.step hb5
             refine hK.out _ _ F5.2.blk (fun hHeld => ?_); clear hK K; refine nm ?_; refine pq 18 ?_ (v := .string (catS BE t.nums ++ listS t.blocks ++ listS t.outs)) (hy := by intro w'; go_simp; have := y0.out; have := y1.out; have := y2.out; have := y3.out; have := y4.out; have := y5.out; omega); have hq := hJ (.slice (some ⟨u0.heap.size, 0, none⟩) 4 4, .slice (some ⟨u1.heap.size, 0, none⟩) 1 1) u5 ⟨F5, p21_5⟩; simp only [putAll, Act.put, List.setIfInBounds_toArray, List.set_cons_zero, List.set_cons_succ] at hq; exact hq
         · skip; refine value_ (w1 := ?_) (v := ?_) (by rfl) rfl ?_ ?_; rotate_left 2
           · go_simp; constructor
             · rfl
             · rfl
           obtain ⟨u1, hu1⟩ : ∃ W, u0.alloc (.cells #[O Y (x.size : Int)] 3) = W := ⟨_, rfl⟩
           have hb1 : Below u0.heap.size u0 u1 := by rw [← hu1]; exact (BR _ _).alloc (NR _) _
           have F1 := And.intro (F0.1.step hb1) (F0.2.step hb1); try have p9_1 := p9_0.step hb1
           have p21_1 : IntsAt u1 (.slice (some ⟨u0.heap.size, 0, none⟩) 1 1) [(x.size : Int)] := by rw [← hu1]; exact ints_new u0 [(x.size : Int)] 3 (by simp [numS, TaskD.nums])
           try rw [hu1]
           clear hu1; refine hK.out _ _ F1.2.blk (fun hHeld => ?_); clear hK K; refine nm ?_; refine rg1 9 (fun K hK => ?_); refine value_ (w1 := ?_) (v := ?_) (by rfl) rfl ?_ ?_; rotate_left 2
           · go_simp; constructor
             · rfl
             · rfl
           obtain ⟨u2, hu2⟩ : ∃ W, u1.alloc (.cells #[O Y t.prio, O Y t.period, O Y t.deadline, O Y t.jitter] 3) = W := ⟨_, rfl⟩
           have hb2 : Below u1.heap.size u1 u2 := by rw [← hu2]; exact (BR _ _).alloc (NR _) _
           have F2 := And.intro (F1.1.step hb2) (F1.2.step hb2); try have p21_2 := p21_1.step hb2
           have p9_2 : IntsAt u2 (.slice (some ⟨u1.heap.size, 0, none⟩) 4 4) t.nums := by rw [← hu2]; exact ints_new u1 t.nums 3 (by simp [numS, TaskD.nums])
           try rw [hu2]
           clear hu2; refine hK.out _ _ F2.2.blk (fun hHeld => ?_); clear hK K; refine nm ?_; refine rg1 10 (fun K hK => ?_); refine goes_ Tryz.func28 (by kernel_rfl) rfl #[.slice (some ⟨u1.heap.size, 0, none⟩) 4 4] (by rfl) rfl rfl (by (try simp only [MA, List.map_cons, List.map_nil]); first | done | rfl) ?_; refine (puts_any _ t.nums u2 p9_2 hto.out.nums (by simp [TaskD.nums])).mono ?_; rintro e u3 ⟨rfl, hb3⟩; refine ⟨_, rfl, ?_⟩; have F3 := And.intro (F2.1.step hb3) (F2.2.step hb3); try have p9_3 := p9_2.step hb3
           try have p21_3 := p21_2.step hb3
           refine hK.out _ _ F3.2.blk (fun hHeld => ?_); clear hK K; refine nm ?_; refine rg1 13 (fun K hK => ?_); refine goes_ Tryz.func29 (by kernel_rfl) rfl #[.slice Av t.blocks.length cv] (by rfl) rfl rfl (by (try simp only [MA, List.map_cons, List.map_nil]); first | done | rfl) ?_; refine (list_any' _ t.blocks u3 F3.2.bl hto.out.blocks hto.out.bl).mono ?_; rintro e u4 ⟨rfl, hb4⟩; refine ⟨_, rfl, ?_⟩; have F4 := And.intro (F3.1.step hb4) (F3.2.step hb4); try have p9_4 := p9_3.step hb4
           try have p21_4 := p21_3.step hb4
           refine hK.out _ _ F4.2.blk (fun hHeld => ?_); clear hK K; refine nm ?_; refine pq 14 ?_ (v := .string (catS BE t.nums ++ listS t.blocks)) (hy := by intro w'; go_simp; have := y0.out; have := y1.out; have := y2.out; have := y3.out; have := y4.out; have := y5.out; omega); refine rg1 17 (fun K hK => ?_); refine goes_ Tryz.func29 (by kernel_rfl) rfl #[.slice Ao t.outs.length co] (by rfl) rfl rfl (by (try simp only [MA, List.map_cons, List.map_nil]); first | done | rfl) ?_; refine (list_any' _ t.outs u4 F4.2.ol hto.out.outs hto.out.ol).mono ?_; rintro e u5 ⟨rfl, hb5⟩; refine ⟨_, rfl, ?_⟩; have F5 := And.intro (F4.1.step hb5) (F4.2.step hb5); try have p9_5 := p9_4.step hb5
           try have p21_5 := p21_4.step hb5
           refine hK.out _ _ F5.2.blk (fun hHeld => ?_); clear hK K; refine nm ?_; refine pq 18 ?_ (v := .string (catS BE t.nums ++ listS t.blocks ++ listS t.outs)) (hy := by intro w'; go_simp; have := y0.out; have := y1.out; have := y2.out; have := y3.out; have := y4.out; have := y5.out; omega); have hq := hJ (.slice (some ⟨u1.heap.size, 0, none⟩) 4 4, .slice (some ⟨u0.heap.size, 0, none⟩) 1 1) u5 ⟨F5, p21_5⟩; simp only [putAll, Act.put, List.setIfInBounds_toArray, List.set_cons_zero, List.set_cons_succ] at hq; exact hq
       rintro ⟨s9, s21⟩ u9 ⟨F9, p21_9⟩; refine norm_ (a' := ?_) ?_ ?_; rotate_left
       · show putAll _ _ = _; simp only [putAll, Act.put, List.setIfInBounds_toArray, List.set_cons_zero, List.set_cons_succ]; rfl
       refine rg1 22 (fun K hK => ?_); refine goes_ Tryz.func28 (by kernel_rfl) rfl #[s21] (by rfl) rfl rfl (by (try simp only [MA, List.map_cons, List.map_nil]); first | done | rfl) ?_; refine (puts_any _ [(x.size : Int)] u9 p21_9 (by intro n hn; simp at hn; have := y5.out; omega) (by simp)).mono ?_; rintro e u10 ⟨rfl, hb10⟩; refine ⟨_, rfl, ?_⟩; have F10 := And.intro (F9.1.step hb10) (F9.2.step hb10); refine hK.out _ _ F10.2.blk (fun hHeld => ?_); clear hK K; refine nm ?_; refine pq 23 ?_ (v := .string (catS BE t.nums ++ listS t.blocks ++ listS t.outs ++ catS BE [(x.size : Int)])) (hy := by intro w'; go_simp; have := y0.out; have := y1.out; have := y2.out; have := y3.out; have := y4.out; have := y5.out; omega); refine pq 25 ?_ (v := .string (catS BE t.nums ++ listS t.blocks ++ listS t.outs ++ catS BE [(x.size : Int)] ++ x)) (hy := by intro w'; go_simp; have := y0.out; have := y1.out; have := y2.out; have := y3.out; have := y4.out; have := y5.out; omega); refine pq 26 ?_ (v := .string (catF taskS (P5 im) (im.tasks.take k) ++ (catS BE t.nums ++ listS t.blocks ++ listS t.outs ++ catS BE [(x.size : Int)] ++ x))) (hy := by intro w'; go_simp; have := y0.out; have := y1.out; have := y2.out; have := y3.out; have := y4.out; have := y5.out; omega); refine pq 27 ?_; refine dn ?_; replace F10 := ZZ F10; rw [htx.out, hn.out]; clear F9 p21_9 hb10 y0 y1 y2 y3 y4 y5 htx hn; try clear hHeld
       go_wp2_with fail; exact ⟨⟨k + 1, hd.out, by go_num, rfl, F10.out.1⟩, by have := hd.out; simp [intOf]; omega⟩
     · have hke : k = im.tasks.length := by omega
       subst hke; have b1 : ¬ (((im.tasks.length : Nat) : Int) < (im.tasks.length : Int)) := by omega
       rw [List.take_length, img_eq]; have hS := ZZ (seal_any (imgS im) wr (by omega)); clear hk hd; go_wp2_with fail; refine hS.out.mono ?_; rintro e w5 ⟨rfl, hb5⟩; have hbE := ZZ (hF.out.bel.trans (hb5.mono (Nat.le_of_lt hF.out.lt))); clear hb5 hS; go_wp2_with fail; go_ret; exact ⟨rfl, hbE.out⟩
theorem putS_low {n : Int} (h0 : 0 ≤ n) (h1 : n ≤ 7) : (putS n).size ≤ 1 := by
 rcases (by omega : n = 0 ∨ n = 1 ∨ n = 2 ∨ n = 3 ∨ n = 4 ∨ n = 5 ∨ n = 6 ∨ n = 7) with rfl | rfl | rfl | rfl | rfl | rfl | rfl | rfl <;> decide +kernel
theorem kind_two : ∀ n : Fin 26, (kindsL.getD n.1 ⟨⟨#[]⟩, 0, 0, 0⟩).args = 2 → (kindsL.getD n.1 ⟨⟨#[]⟩, 0, 0, 0⟩).low = 0 ∧ (kindsL.getD n.1 ⟨⟨#[]⟩, 0, 0, 0⟩).high = 7 := by decide +kernel
theorem encI_ok {x : I3} (h : SmI x) (ho : okI x = true) : (encI x.o x.a x.b).size ≤ 13 := by
 obtain ⟨o, a, b⟩ := x; have hb := rightI_bd ho; have hk : kindOf o = kindsL.getD o.toNat ⟨⟨#[]⟩, 0, 0, 0⟩ := if_neg (by dsimp only at hb; omega); have h2 := kind_two ⟨o.toNat, by dsimp only at hb; omega⟩; dsimp only at h2; rw [← hk] at h2; have ho' : rightI o a b = true := ho; have h1 : (strOfNums [o]).size = 1 := strOfNums_size _; have pa := putS_size a h.1; have pb := putS_size b h.2; show (encI o a b).size ≤ 13; unfold encI; rw [if_pos ho']; unfold rightI at ho'; dsimp only at ho'; by_cases c0 : (kindOf o).args = 0
 · simp only [encP, c0]; simp; omega
 · rw [if_neg c0] at ho'; by_cases c1 : (kindOf o).args = 1
   · simp only [encP, c1]; simp; omega
   · rw [if_neg c1] at ho'; by_cases c2 : (kindOf o).args = 2
     · rw [if_pos c2] at ho'; obtain ⟨l, hh⟩ := h2 c2; rw [l, hh] at ho'; simp only [Bool.and_eq_true, decide_eq_true_eq] at ho'; have qa := putS_low ho'.1.1 ho'.1.2; have qb := putS_low ho'.2.1 ho'.2.2; simp only [encP, c2]; simp; omega
     · rw [if_neg c2] at ho'; cases ho'
theorem catI_ok (l : List I3) (hl : ∀ x ∈ l, SmI x ∧ okI x = true) : ∀ s : ByteArray, (catI s l).size ≤ s.size + 13 * l.length := by
 induction l with
 | nil => intro s; exact NR _
 | cons x l ih =>
  intro s; have h1 := ih (fun m hm => hl m (List.mem_cons_of_mem _ hm)) (s ++ encI x.o x.a x.b); have h2 := encI_ok (hl x (List.mem_cons_self ..)).1 (hl x (List.mem_cons_self ..)).2; rw [ByteArray.size_append] at h1; rw [List.length_cons]; show (catI (s ++ encI x.o x.a x.b) l).size ≤ _; omega
theorem codeB_ok {l : List I3} (h : (codeB l).toList.isEmpty = false) : l.length ≤ 200 ∧ l.all okI = true := by
 unfold codeB at h; split at h
 · assumption
 · rw [isEmpty_of] at h; cases h
theorem rises_len (e : Int) : ∀ (l : List Int) (last : Int), risesB e last l = true → last < e → (l.length : Int) < e - last := by
 intro l; induction l with
 | nil => intro last _ h1; simp; omega
 | cons n l ih =>
  intro last h h1; rw [risesB] at h; split at h
  · cases h
  · have := ih n h (by omega); rw [List.length_cons]; omega
theorem tasks_each {nb ns : Nat} : ∀ {L : List TaskD} {own : List Int}, tasksOk nb ns own L = true → ∀ t ∈ L, t.ok nb ns = true := by
 intro L; induction L with
 | nil => intro own _ t ht; cases ht
 | cons x L ih =>
  intro own h t ht; rw [tasksOk] at h; split at h
  · split at h
    · cases h
    · rcases List.mem_cons.1 ht with rfl | ht
      · assumption
      · exact ih h t ht
  · cases h
theorem mem_small {l : List Int} {e : Nat} (he : e ≤ 100) (h : risesB e (-1) l = true) : Small l ∧ l.length ≤ e := by
 refine ⟨fun n hn => ?_, ?_⟩
 · have := rises_bd e l (-1) (by omega) h n hn; omega
 · have := rises_len e l (-1) h (by omega); omega
theorem taskOk_of {t : TaskD} {nb ns : Nat} (hb : nb ≤ 16) (hs : ns ≤ 16) (h : t.ok nb ns = true) (hc : ∀ x ∈ t.code, SmI x) : TaskOk t := by
 unfold TaskD.ok numsB at h; simp only [Bool.and_eq_true, beq_iff_eq, Bool.not_eq_true'] at h; obtain ⟨⟨p1, p2, p3, p4⟩, h1, h2, h3, h4⟩ := h; rw [mx_eq, mn_eq] at p1 p2 p4; rw [mx_eq, mx_eq, mn_eq, mn_eq] at p3; obtain ⟨c1, c2⟩ := codeB_ok h4; refine ⟨?_, (mem_small (by omega) h2).1, (mem_small (by omega) h3).1, ?_, ?_, hc, c2, c1, ?_⟩
 · intro n hn; simp only [List.mem_cons, List.not_mem_nil, or_false] at hn; rcases hn with rfl | rfl | rfl | rfl <;> omega
 · have := (mem_small (by omega) h2).2; omega
 · have := (mem_small (by omega) h3).2; omega
 · have h5 := catI_ok t.code (fun x hx => ⟨hc x hx, List.all_eq_true.1 c2 x hx⟩) BE; have h6 : BE.size = 0 := rfl; omega
theorem imOk_of {im : ImageD} (hok : im.ok = true) (hsm : im.small) (h1 : Small im.safe) (h2 : ∀ l ∈ im.blocks, Small l) : ImOk im := by
 have h := hok; unfold ImageD.ok at h; simp only [Bool.and_eq_true] at h; obtain ⟨hh, hb, ht⟩ := h; obtain ⟨b1, b2, b3⟩ := head_bd hh; refine ⟨?_, h1, b1, b2, b3, fun l hl => ⟨h2 l hl, ?_⟩, fun t htm => taskOk_of (by omega) (by omega) (tasks_each ht t htm) (hsm t htm)⟩
 · unfold headOk at hh; simp only [Bool.and_eq_true, beq_iff_eq] at hh; obtain ⟨p1, p2, p3, p4, _⟩ := hh; rw [mx_eq, mn_eq] at p1 p2 p3 p4; intro n hn; simp only [numS, List.mem_cons, List.not_mem_nil, or_false] at hn; rcases hn with rfl | rfl | rfl | rfl <;> omega
 · have := List.all_eq_true.1 hb l hl; unfold blockOk at this; simp only [Bool.and_eq_true, decide_eq_true_eq] at this; omega
theorem imgS_size {im : ImageD} (h : ImOk im) : (imgS im).size ≤ 500000000 := by
 have := tsks_size im h im.tasks.length; rw [List.take_length, img_eq] at this; omega
section
attribute [local go_sem] max2_int min2_int max_two min_two
theorem light6 (im : ImageD) (v : Value) (w : World) (h : ImageAt w v im) (hlb : (im.blocks.length : Int) ≤ 9223372036854775807) (hlt : (im.tasks.length : Int) ≤ 9223372036854775807) : Calls Tryz.prog 6 #[v] w fun e w' => ∃ n, e = .returned (O Y n) ∧ Below w.heap.size w w' := by
 obtain ⟨vs, vb, vt, rfl, H1, H2, H3⟩ := h; obtain ⟨As, cs, rfl, _, hs63, _⟩ := id H1; obtain ⟨Ab, cb, rfl, hcb, _⟩ := id H2; obtain ⟨At, ct, rfl, hct, _⟩ := id H3; replace H1 := ZZ H1; replace H2 := ZZ H2; replace H3 := ZZ H3; have hB := ZZ ((BR w.heap.size w).alloc (NR _) (.cells #[O Y im.sw, O Y im.la, O Y im.co, O Y im.inp, .slice As im.safe.length cs, .slice Ab im.blocks.length cb, .slice At im.tasks.length ct] 26)); have hbI := heap_alloc_last w (.cells #[O Y im.sw, O Y im.la, O Y im.co, O Y im.inp, .slice As im.safe.length cs, .slice Ab im.blocks.length cb, .slice At im.tasks.length ct] 26); generalize hW : w.alloc (.cells #[O Y im.sw, O Y im.la, O Y im.co, O Y im.inp, .slice As im.safe.length cs, .slice Ab im.blocks.length cb, .slice At im.tasks.length ct] 26) = W1 at hB hbI; replace hbI := ZZ hbI; replace hW := ZZ hW; go_enter Tryz.func6, Tryz.ntmps6; generalize hn0 : wrap64 (wrap64 ((im.safe.length : Int) + (im.blocks.length : Int)) + (im.tasks.length : Int)) = n0; replace hn0 := ZZ hn0; go_wp2_with fail; all_goals (try rw [hW.out])
 · go_ret; exact ⟨_, rfl, hB.out⟩
 · go_loopw [3, 4] (fun vn vi wr => ∃ (n : Int) (k : Nat), k ≤ im.blocks.length ∧ vn = O Y n ∧ vi = O Y k ∧ wr = W1) (fun _ vi _ => im.blocks.length - (intOf vi).toNat); case atStart => exact ⟨_, 0, Nat.zero_le _, rfl, rfl, rfl⟩
   case round =>
    obtain ⟨n, k, hk, rfl, rfl, hwr⟩ := hrel; rw [hwr]; replace hwr := ZZ hwr; have c5 : W1.cell? ⟨w.heap.size, 5, none⟩ = some (.slice Ab im.blocks.length cb) := (blk_cell hbI.out 5).trans rfl; have c6 : W1.cell? ⟨w.heap.size, 6, none⟩ = some (.slice At im.tasks.length ct) := (blk_cell hbI.out 6).trans rfl; by_cases hkn : k < im.blocks.length
    · have hkn' : (k : Int) < (im.blocks.length : Int) := Int.ofNat_lt.2 hkn; have tk : decide (im.blocks.length ≤ k) = false := decide_eq_false (Nat.not_le.2 hkn); have hk63 : (k : Int) < 9223372036854775807 := by omega
      obtain ⟨y, hy⟩ : ∃ y, im.blocks[k]? = some y := ⟨im.blocks[k], GE hkn⟩
      obtain ⟨A', c', e', hc', hrow⟩ := RowsAt.step H2.out hB.out; injection e' with e1 e2 e3
      subst e1; clear e2 e3; obtain ⟨ad, u, rfl, hcell, hu⟩ := hrow k y hy; obtain ⟨Au, cu, rfl, _, hyl, _⟩ := hu; have hkn3 := ZZ hkn; clear hy hkn hk hrow; generalize y.length = yl at *; go_wp2_with fail; all_goals (refine ⟨⟨_, k + 1, hkn3.out, rfl, by go_num, trivial⟩, ?_⟩; have := hkn3.out; simp [intOf]; omega)
    · have e0' : ¬ ((k : Int) < (im.blocks.length : Int)) := fun h => hkn (Int.ofNat_lt.1 h); clear hkn hk; go_wp2_with fail; go_loopw [3, 5] (fun vn vi wr => ∃ (n : Int) (k : Nat), k ≤ im.tasks.length ∧ vn = O Y n ∧ vi = O Y k ∧ Below w.heap.size w wr ∧ wr.heap[w.heap.size]? = some (.cells #[O Y im.sw, O Y im.la, O Y im.co, O Y im.inp, .slice As im.safe.length cs, .slice Ab im.blocks.length cb, .slice At im.tasks.length ct] 26 (0, 0))) (fun _ vi _ => im.tasks.length - (intOf vi).toNat); case atStart => exact ⟨_, 0, Nat.zero_le _, rfl, rfl, hB.out, hbI.out⟩
      case round =>
       obtain ⟨n, k, hk, rfl, rfl, hBr, hbr⟩ := hrel; clear c5 c6 hbI hB; have c6 : wr.cell? ⟨w.heap.size, 6, none⟩ = some (.slice At im.tasks.length ct) := (blk_cell hbr 6).trans rfl; replace hBr := ZZ hBr; replace hbr := ZZ hbr; by_cases hkn : k < im.tasks.length
       · have hkn' : (k : Int) < (im.tasks.length : Int) := Int.ofNat_lt.2 hkn; have tk : decide (im.tasks.length ≤ k) = false := decide_eq_false (Nat.not_le.2 hkn); have hk63 : (k : Int) < 9223372036854775807 := by omega
         obtain ⟨t, ht⟩ : ∃ t, im.tasks[k]? = some t := ⟨im.tasks[k], GE hkn⟩
         obtain ⟨A', c', e', hc', hrow⟩ := H3.out; injection e' with e1 e2 e3
         subst e1; clear e2 e3; obtain ⟨ad, rfl, hta⟩ := hrow k t ht; obtain ⟨vb, vo, vc, t0, t1, t2, t3, t4, t5, t6, t7, t8, t9⟩ := hta; obtain ⟨Atb, ctb, rfl, _⟩ := id t7; obtain ⟨Ato, cto, rfl, _⟩ := id t8; obtain ⟨Atc, ctc, rfl, _⟩ := id t9; have kk := fun {q : Addr} {u : Value} (h : w.cell? q = some u) => cell_keep hBr.out (NR _) h; replace t0 := kk t0; replace t1 := kk t1; replace t2 := kk t2; replace t3 := kk t3; replace t4 := kk t4; replace t5 := kk t5; replace t6 := kk t6; clear kk t7 t8 t9; have hbT5 := heap_alloc_last wr (.cells #[O Y t.prio, O Y t.period, O Y t.deadline, O Y t.jitter, .slice Atb t.blocks.length ctb, .slice Ato t.outs.length cto, .slice Atc t.code.length ctc] 45); have u4 := bk hbT5 4 (.slice Atb t.blocks.length ctb); have u5 := bk hbT5 5 (.slice Ato t.outs.length cto); have u6 := bk hbT5 6 (.slice Atc t.code.length ctc); have hbI5 := ZZ ((Below.heap_alloc wr (.cells #[O Y t.prio, O Y t.period, O Y t.deadline, O Y t.jitter, .slice Atb t.blocks.length ctb, .slice Ato t.outs.length cto, .slice Atc t.code.length ctc] 45) w.heap.size (ltA hbr.out)).trans hbr.out); have hB5 := ZZ (hBr.out.alloc hBr.out.size (.cells #[O Y t.prio, O Y t.period, O Y t.deadline, O Y t.jitter, .slice Atb t.blocks.length ctb, .slice Ato t.outs.length cto, .slice Atc t.code.length ctc] 45)); have hkn3 := ZZ hkn; clear hkn hk hrow ht hbT5 hbr hBr; go_wp2_with fail; all_goals (refine ⟨⟨_, k + 1, hkn3.out, rfl, by go_num, hB5.out, hbI5.out⟩, ?_⟩; have := hkn3.out; simp [intOf]; omega)
       · have e0' : ¬ ((k : Int) < (im.tasks.length : Int)) := fun h => hkn (Int.ofNat_lt.1 h); clear hkn hk; go_wp2_with fail; all_goals (go_ret; first | exact ⟨⟨_, rfl⟩, hBr.out⟩ | exact ⟨_, rfl, hBr.out⟩)
theorem light5 (im : ImageD) (v : Value) (w : World) (h : ImageAt w v im) (hlb : (im.blocks.length : Int) ≤ 9223372036854775807) (hlt : (im.tasks.length : Int) ≤ 9223372036854775807) : Calls Tryz.prog 5 #[v] w fun e w' => ∃ n, e = .returned (O Y n) ∧ Below w.heap.size w w' := by
 have H0 := h; obtain ⟨vs, vb, vt, rfl, H1, H2, H3⟩ := h; obtain ⟨As, cs, rfl, _, hs63, _⟩ := id H1; obtain ⟨Ab, cb, rfl, hcb, _⟩ := id H2; obtain ⟨At, ct, rfl, hct, _⟩ := id H3; replace H3 := ZZ H3; have hB0 := (BR w.heap.size w).alloc (NR _) (.cells #[O Y im.sw, O Y im.la, O Y im.co, O Y im.inp, .slice As im.safe.length cs, .slice Ab im.blocks.length cb, .slice At im.tasks.length ct] 26); have hL := ZZ (light6 im _ (w.alloc (.cells #[O Y im.sw, O Y im.la, O Y im.co, O Y im.inp, .slice As im.safe.length cs, .slice Ab im.blocks.length cb, .slice At im.tasks.length ct] 26)) (H0.step hB0) hlb hlt); have hB := ZZ hB0; have hbI := ZZ (heap_alloc_last w (.cells #[O Y im.sw, O Y im.la, O Y im.co, O Y im.inp, .slice As im.safe.length cs, .slice Ab im.blocks.length cb, .slice At im.tasks.length ct] 26)); clear H0 H1 H2 hB0; go_enter Tryz.func5, Tryz.ntmps5; go_wp2_with fail; refine hL.out.mono ?_; rintro e w1 ⟨n0, rfl, hb1⟩; have hbr := ZZ ((hb1.block w.heap.size (ltA hbI.out)).trans hbI.out); have hBr := ZZ (hB.out.trans (hb1.mono hB.out.size)); have c6 : w1.cell? ⟨w.heap.size, 6, none⟩ = some (.slice At im.tasks.length ct) := (blk_cell hbr.out 6).trans rfl; clear hL hb1 hB hbI; by_cases hn0 : n0 = 0
 · have d0 : (n0 == 0) = true := beq_iff_eq.mpr hn0; clear hn0; go_wp2_with fail; go_ret; first | exact ⟨⟨_, rfl⟩, hBr.out⟩ | exact ⟨_, rfl, hBr.out⟩
 · have d0 : (n0 == 0) = false := beq_eq_false_iff_ne.mpr hn0; clear hn0; go_wp2_with fail; go_loop [3] (fun vi => ∃ k : Nat, k ≤ im.tasks.length ∧ vi = O Y k) (fun vi => im.tasks.length - (intOf vi).toNat); case atStart => exact ⟨0, Nat.zero_le _, rfl⟩
   case round =>
    obtain ⟨k, hk, rfl⟩ := hrel; by_cases hkn : k < im.tasks.length
    · have hkn' : (k : Int) < (im.tasks.length : Int) := Int.ofNat_lt.2 hkn; have tk : decide (im.tasks.length ≤ k) = false := decide_eq_false (Nat.not_le.2 hkn); have hk63 : (k : Int) < 9223372036854775807 := by omega
      obtain ⟨t, ht⟩ : ∃ t, im.tasks[k]? = some t := ⟨im.tasks[k], GE hkn⟩
      obtain ⟨A', c', e', hc', hrow⟩ := H3.out; injection e' with e1 e2 e3
      subst e1; clear e2 e3; obtain ⟨ad, rfl, hta⟩ := hrow k t ht; obtain ⟨vb, vo, vc, t0, t1, t2, t3, t4, t5, t6, t7, t8, t9⟩ := hta; obtain ⟨Atb, ctb, rfl, _⟩ := id t7; obtain ⟨Ato, cto, rfl, _⟩ := id t8; obtain ⟨Atc, ctc, rfl, _⟩ := id t9; have kk := fun {q : Addr} {u : Value} (h : w.cell? q = some u) => cell_keep hBr.out (NR _) h; replace t0 := kk t0; replace t1 := kk t1; replace t2 := kk t2; replace t3 := kk t3; replace t4 := kk t4; replace t5 := kk t5; replace t6 := kk t6; clear kk t7 t8 t9; have hkn3 := ZZ hkn; clear hkn hk hrow ht; by_cases h1 : 20000 < t.deadline
      · have d1 : decide (20000 < t.deadline) = true := decide_eq_true h1; by_cases h2 : t.deadline ≤ 1048576
        · have d2 : decide (t.deadline ≤ 1048576) = true := decide_eq_true h2; clear h1 h2; go_wp2_with fail; go_ret; first | exact ⟨⟨_, rfl⟩, hBr.out⟩ | exact ⟨_, rfl, hBr.out⟩
        · have d2 : decide (t.deadline ≤ 1048576) = false := decide_eq_false h2; clear h1 h2; go_wp2_with fail; go_round; case rel => exact ⟨k + 1, hkn3.out, by go_num⟩
          case measure => have := hkn3.out; simp [intOf]; omega
      · have d1 : decide (20000 < t.deadline) = false := decide_eq_false h1; clear h1; go_wp2_with fail; go_round; case rel => exact ⟨k + 1, hkn3.out, by go_num⟩
        case measure => have := hkn3.out; simp [intOf]; omega
    · have e0' : ¬ ((k : Int) < (im.tasks.length : Int)) := fun h => hkn (Int.ofNat_lt.1 h); clear hkn hk; go_wp2_with fail; go_ret; first | exact ⟨⟨_, rfl⟩, hBr.out⟩ | exact ⟨_, rfl, hBr.out⟩
theorem same_any {va vb : Value} {a b : List Int} (w : World) (ha : IntsAt w va a) (hb : IntsAt w vb b) : Calls Tryz.prog 16 #[va, vb] w fun e w' => e = .returned (.bool (a == b)) ∧ Below w.heap.size w w' := by
 have H1 := ZZ ha; have H2 := ZZ hb; obtain ⟨A1, c1, rfl, hc1, hn1, _⟩ := id ha; obtain ⟨A2, c2, rfl, hc2, hn2, _⟩ := id hb; clear ha hb; obtain ⟨na, hna⟩ : ∃ na, a.length = na := ⟨_, rfl⟩
 obtain ⟨nb, hnb⟩ : ∃ nb, b.length = nb := ⟨_, rfl⟩
 rw [hna] at H1 hc1 hn1 ⊢; rw [hnb] at H2 hc2 hn2 ⊢; replace hna := ZZ hna; replace hnb := ZZ hnb; by_cases hl : na = nb
 · subst hl; go_enter Tryz.func16, Tryz.ntmps16; go_wp2_with fail; go_loopw [5] (fun vi wr => ∃ k : Nat, k ≤ na ∧ vi = O Y k ∧ a.take k = b.take k ∧ Below w.heap.size w wr) (fun vi _ => na - (intOf vi).toNat); case atStart => exact ⟨0, Nat.zero_le _, rfl, rfl, BR _ _⟩
   case round =>
    obtain ⟨k, hk, rfl, htk, hBr⟩ := hrel; by_cases hkn : k < na
    · have hkn' : (k : Int) < (na : Int) := Int.ofNat_lt.2 hkn; have t1 : decide (na ≤ k) = false := decide_eq_false (Nat.not_le.2 hkn); have hk63 : (k : Int) < 9223372036854775807 := by omega
      obtain ⟨x, hx⟩ : ∃ x, a[k]? = some x := ⟨_, GE (by rw [hna.out]; exact hkn)⟩
      obtain ⟨y, hy⟩ : ∃ y, b[k]? = some y := ⟨_, GE (by rw [hnb.out]; exact hkn)⟩
      obtain ⟨p, rfl, hp⟩ := IntsAt.at (H1.out.step hBr) k x hx; obtain ⟨q, rfl, hq⟩ := IntsAt.at (H2.out.step hBr) k y hy; replace hp : wr.drew.cell? (p.add k) = some (O Y x) := hp; replace hq : wr.drew.cell? (q.add k) = some (O Y y) := hq; have hBd := ZZ hBr.drew; have hn1 := take_next a k x hx; have hn2 := take_next b k y hy; have hkn3 := ZZ hkn; replace hx := ZZ hx; replace hy := ZZ hy; clear hk hBr; by_cases hxy : x = y
      · subst hxy; have hT := ZZ (show a.take (k + 1) = b.take (k + 1) by rw [hn1, hn2, htk]); clear htk hn1 hn2 hkn; go_wp2_with fail; refine st 9 (S := fun w' => w'.cell? (p.add k) = some (O Y x) ∧ w'.cell? (q.add k) = some (O Y x)) (ds := []) ⟨hp, hq⟩ (fun hHeld => ?_); refine pq 0 ?_; refine pq 1 ?_; refine pq 2 ?_; refine pq 4 ?_; refine pq 5 ?_; refine pq 6 ?_; refine tk 3 hHeld ?_; refine tk 7 hHeld ?_; refine pq 8 ?_; refine dn ?_; go_wp2_with fail; exact ⟨⟨k + 1, hkn3.out, by go_num, hT.out, hBd.out⟩, by have := hkn3.out; simp [intOf]; omega⟩
      · have hr := ZZ (show (a == b) = false from beq_eq_false_iff_ne.mpr (fun e => hxy (by have h1 := hx.out; have h2 := hy.out; rw [e, h2] at h1; injection h1 with h1; exact h1.symm))); have hne := ZZ hxy; clear htk hn1 hn2 hkn hxy; go_wp2_with fail; refine st 9 (S := fun w' => w'.cell? (p.add k) = some (O Y x) ∧ w'.cell? (q.add k) = some (O Y y)) (ds := []) ⟨hp, hq⟩ (fun hHeld => ?_); refine pq 0 ?_; refine pq 1 ?_; refine pq 2 ?_; refine pq 4 ?_; refine pq 5 ?_; refine pq 6 ?_; refine tk 3 hHeld ?_; refine tk 7 hHeld ?_; refine pq 8 ?_ (v := .bool true) (hy := by intro w'; go_simp; first | exact hne.out | simp [hne.out]); refine dn ?_; go_wp2_with fail; go_ret; exact ⟨by rw [hr.out]; rfl, hBd.out⟩
    · have hr := ZZ (show (a == b) = true by
       rw [List.take_of_length_le (by have := hna.out; omega), List.take_of_length_le (by have := hnb.out; omega)] at htk; exact beq_iff_eq.2 htk)
      have e0' : ¬ ((k : Int) < (na : Int)) := fun h => hkn (Int.ofNat_lt.1 h); replace hBr := ZZ hBr; clear htk hkn hk; go_wp2_with fail; go_ret; exact ⟨by rw [hr.out]; rfl, hBr.out⟩
 · have d0 : ((na : Int) == (nb : Int)) = false := beq_eq_false_iff_ne.mpr (by omega); have hr : (a == b) = false := beq_eq_false_iff_ne.mpr (fun e => hl (by rw [← hna.out, ← hnb.out, e])); rw [hr]; clear hl hr; go_enter Tryz.func16, Tryz.ntmps16; go_wp2_with fail; go_ret; exact ⟨rfl, BR _ _⟩
end
end Go.Proofs.YtoopeamoejmjeaaGreat.Tp
namespace Go.Proofs.YtoopeamoejmjeaaGreat.Tm
open RowKit MapKept
open Go.ChangeMaps (setBlock modify_eq_set)
open Go.Maps (Keyed)
section
structure W3 where
 t : Int
 n : Int
 a : Int
def keyV (t n : Int) : Value := .agg #[.int .i64 t, .int .i64 n]
def W3.kv (x : W3) : Value × Value := (keyV x.t x.n, .int .i64 x.a)
def In64 (x : Int) : Prop := -9223372036854775808 ≤ x ∧ x ≤ 9223372036854775807
theorem laidOut : laidOutB Tryz.prog = true := by kernel_rfl
theorem law48 : Keyed Tryz.prog 114 := Keyed.of_law (deep_law_laid laidOut (m := 2) (by omega) (of_decide_eq_true (by kernel_rfl)) (by kernel_rfl) (by kernel_rfl))
theorem wf64 {x : Int} (h : In64 x) : (Lit.int .i64 x).wf = true := by
 simp only [Lit.wf, Bool.and_eq_true, decide_eq_true_eq]; have e0 : IntKind.i64.min = -9223372036854775808 := by decide
 have e1 : IntKind.i64.max = 9223372036854775807 := by decide
 unfold In64 at h; omega
theorem lits48 {t n : Int} (h1 : (Lit.int .i64 t).wf = true) (h2 : (Lit.int .i64 n).wf = true) (d : Nat) (hd : 2 ≤ d) : Tryz.prog.keyLits d 114 [.int .i64 t, .int .i64 n] = some [.int .i64 t, .int .i64 n] := by
 obtain ⟨d, rfl⟩ : ∃ k, d = k + 2 := ⟨d - 2, by omega⟩
 have hc : Tryz.prog.cellsOf 114 = 2 := by kernel_rfl
 have hc3 : Tryz.prog.cellsOf 3 = 1 := by kernel_rfl
 simp only [Program.keyLits, Tryz.underlying114, hc]; simp [Tryz.underlying3, hc3, h1, h2]
theorem formed48 (t n : Int) : (Value.agg #[.int .i64 t, .int .i64 n]).formed Tryz.prog 114 = true := by
 have hc : Tryz.prog.cellsOf 114 = 2 := by kernel_rfl
 simp [Value.formed, Tryz.underlying114, hc]
theorem keyOf_struct {P : Program} {k : TypeId} {fs : Array Field} (hu : P.underlying k = some (.struct fs)) {v : Value} {ls : List Lit} (h1 : P.keyType k = true) (h2 : v.formed P k = true) (h3 : P.keyLits (P.types.size + 1) k v.cells.toList = some ls) : keyOf P k v = some (.string (keyBytes ls)) := by
 unfold keyOf; rw [hu]; simp only [h1, h2, Bool.and_self, if_true, h3, Option.map_some]
theorem keyV_is {t n : Int} (ht : In64 t) (hn : In64 n) : ∃ l, keyOf Tryz.prog 114 (keyV t n) = some l := by
 have hs : 1 ≤ Tryz.prog.types.size := of_decide_eq_true (by kernel_rfl); exact ⟨_, keyOf_struct Tryz.underlying114 (by kernel_rfl) (formed48 t n) (lits48 (wf64 ht) (wf64 hn) _ (Nat.succ_le_succ hs))⟩
theorem perm_eraseIdx {α : Type} {l : List α} {j : Nat} (h : j < l.length) : l.Perm (l[j] :: l.eraseIdx j) := by
 have e1 : l = l.take j ++ l[j] :: l.drop (j + 1) := by rw [← List.drop_eq_getElem_cons h, List.take_append_drop]
 rw [List.eraseIdx_eq_take_drop_succ]; exact (List.Perm.of_eq e1).trans List.perm_middle
def MapIs (W : World) (m : Nat) (ws : List W3) : Prop := ∃ es clock, W.heap[m]? = some (.map es clock) ∧ Stamped es clock ∧ (es.toList.map fun e => (e.key, e.val)).Perm (ws.map W3.kv) ∧ ∀ x ∈ ws, In64 x.t ∧ In64 x.n
theorem keyV_inj {a b c d : Int} (h : keyV a b = keyV c d) : a = c ∧ b = d := by
 unfold keyV at h; injection h with h
 have h2 := congrArg Array.toList h; simp at h2; exact h2
theorem MapIs.move {W W' : World} {m : Nat} {ws : List W3} (h : MapIs W m ws) (hm : W'.heap[m]? = W.heap[m]?) : MapIs W' m ws := by
 obtain ⟨es, clock, h1, h2⟩ := h; exact ⟨es, clock, hm.trans h1, h2⟩
theorem MapIs.lt {W : World} {m : Nat} {ws : List W3} (h : MapIs W m ws) : m < W.heap.size := by
 obtain ⟨es, clock, h1, _⟩ := h; exact (ltA h1)
theorem MapIs.perm {W : World} {m : Nat} {ws ws' : List W3} (h : MapIs W m ws) (hp : ws.Perm ws') : MapIs W m ws' := by
 obtain ⟨es, clock, h1, h2, h3, h4⟩ := h; exact ⟨es, clock, h1, h2, h3.trans (hp.map _), fun x hx => h4 x (hp.mem_iff.2 hx)⟩
theorem MapIs.made (W : World) : MapIs (W.alloc (.map #[] 0)) W.heap.size [] := ⟨#[], 0, (MapKept.heap_alloc W _).1, stamped_empty 0, by simp, by simp⟩
section
variable {W : World} {m : Nat} {ws : List W3}
theorem keys_of {es : Array MapEntry} (hp : (es.toList.map fun e => (e.key, e.val)).Perm (ws.map W3.kv)) (hr : ∀ x ∈ ws, In64 x.t ∧ In64 x.n) : ∀ e ∈ es.toList, ∃ l, keyOf Tryz.prog 114 e.key = some l := by
 intro e he; have h1 : (e.key, e.val) ∈ ws.map W3.kv := hp.mem_iff.1 (List.mem_map.2 ⟨e, he, rfl⟩); obtain ⟨x, hx, hxe⟩ := List.mem_map.1 h1; have : e.key = keyV x.t x.n := (congrArg Prod.fst hxe).symm; rw [this]; exact keyV_is (hr x hx).1 (hr x hx).2
theorem MapIs.store (h : MapIs W m ws) (hl : ws.length < maxLen) (t n a : Int) (ht : In64 t) (hn : In64 n) (hnew : ∀ x ∈ ws, ¬ (x.t = t ∧ x.n = n)) :
 ∃ W', (Instr.mapUpdate 147 (.map (some m)) (keyV t n) (.int .i64 a)).run Tryz.prog W = .ok () W' ∧ MapIs W' m (⟨t, n, a⟩ :: ws) ∧ Keeps [m] W W' := by
 obtain ⟨es, clock, hb, hst, hp, hr⟩ := h; obtain ⟨kl, hkey⟩ := keyV_is ht hn; have hes := keys_of hp hr; have hsz : es.size = ws.length := by have := hp.length_eq; simpa using this
 have hno : ∀ e ∈ es.toList, e.key ≠ keyV t n := by
  intro e he hek; have h1 : (e.key, e.val) ∈ ws.map W3.kv := hp.mem_iff.1 (List.mem_map.2 ⟨e, he, rfl⟩); obtain ⟨x, hx, hxe⟩ := List.mem_map.1 h1; have h2 : keyV x.t x.n = keyV t n := (congrArg Prod.fst hxe).trans hek; exact hnew x hx (keyV_inj h2)
 rcases law48.find W hkey es.toList hes with ⟨h1, h2⟩ | ⟨j, e0, h1, h2, h3⟩
 · refine ⟨setBlock W m (.map (es.push ⟨keyV t n, .int .i64 a, clock⟩) (clock + 1)), ?_, ⟨_, _, ChangeMaps.heap_setBlock_same hb _, stamped_push hst h2, ?_, ?_⟩, ⟨rfl, rfl, rfl, by simp [setBlock], fun i _ hi => ChangeMaps.heap_setBlock_other hb _ (fun e => hi (by simp [e]))⟩⟩
   · simp [Instr.mapUpdate, run_underlying Tryz.underlying147, MapKept.run_getObj_map hb, law48.check W false hkey, h1, MapKept.run_setObj_map _ hb, Result.andThen, setBlock]; try omega
   · simp only [Array.toList_push, List.map_append, List.map_cons, List.map_nil]; exact List.perm_append_singleton _ _ |>.trans (by simpa [W3.kv] using hp)
   · intro x hx; rcases List.mem_cons.1 hx with rfl | hx
     · exact ⟨ht, hn⟩
     · exact hr x hx
 · exact absurd h3 (hno e0 (LM h2))
theorem MapIs.look (h : MapIs W m ws) (x : W3) (hx : x ∈ ws) : (Instr.lookup 147 (.map (some m)) (keyV x.t x.n) false).run Tryz.prog W = .ok (.int .i64 x.a) W := by
 obtain ⟨es, clock, hb, hst, hp, hr⟩ := h; obtain ⟨kl, hkey⟩ := keyV_is (hr x hx).1 (hr x hx).2; have hes := keys_of hp hr; have h1 : (keyV x.t x.n, O Y x.a) ∈ es.toList.map fun e => (e.key, e.val) := hp.mem_iff.2 (List.mem_map.2 ⟨x, hx, rfl⟩); obtain ⟨e, he, hee⟩ := List.mem_map.1 h1; simp only [Prod.mk.injEq] at hee; rcases law48.find W hkey es.toList hes with ⟨h1, h2⟩ | ⟨j, e0, h1, h2, h3⟩
 · exact absurd hee.1 (h2 e he)
 · have hm0 : e0 ∈ es.toList := LM h2; have hk := ((stamped_iff es clock).1 hst).2.2; have e1 : e0 = e := entry_eq_of_key hk hm0 he (h3.trans hee.1.symm); rw [e1, hee.2] at h1; simp [Instr.lookup, run_underlying Tryz.underlying147, MapKept.run_getObj_map hb, law48.check W _ hkey, h1, Result.andThen]
theorem MapIs.drop {ty : TypeId} (x : W3) (h : MapIs W m (x :: ws)) : ∃ W', (Builtin.delete_ #[147, 114] ty #[.map (some m), keyV x.t x.n]).run Tryz.prog W = .ok (.tuple #[]) W' ∧ MapIs W' m ws ∧ Keeps [m] W W' := by
 obtain ⟨es, clock, hb, hst, hp, hr⟩ := h; have hrx := hr x (by simp); obtain ⟨kl, hkey⟩ := keyV_is hrx.1 hrx.2; have hes := keys_of hp hr; have h1 : (keyV x.t x.n, O Y x.a) ∈ es.toList.map fun e => (e.key, e.val) := hp.mem_iff.2 (by simp [W3.kv]); obtain ⟨e, he, hee⟩ := List.mem_map.1 h1; simp only [Prod.mk.injEq] at hee; rcases law48.find W hkey es.toList hes with ⟨h1, h2⟩ | ⟨j, e0, h1, h2, h3⟩
 · exact absurd hee.1 (h2 e he)
 · have hm0 : e0 ∈ es.toList := LM h2; have hk := ((stamped_iff es clock).1 hst).2.2; have e1 : e0 = e := entry_eq_of_key hk hm0 he (h3.trans hee.1.symm); subst e1; have hjl : j < es.toList.length := (GI.1 h2).1; have hjs : j < es.size := by simpa using hjl
   have hsub : (es.eraseIdxIfInBounds j).toList = es.toList.eraseIdx j := by
    unfold Array.eraseIdxIfInBounds; rw [dif_pos hjs]; simp
   refine ⟨setBlock W m (.map (es.eraseIdxIfInBounds j) clock), ?_, ⟨_, _, ChangeMaps.heap_setBlock_same hb _, stamped_erase hst j, ?_, fun y hy => hr y (by simp [hy])⟩, ⟨rfl, rfl, rfl, by simp [setBlock], fun i _ hi => ChangeMaps.heap_setBlock_other hb _ (fun e => hi (by simp [e]))⟩⟩
   · simp [Builtin.delete_, run_underlying Tryz.underlying147, MapKept.run_getObj_map hb, law48.check W _ hkey, h1, MapKept.run_setObj_map _ hb, Result.andThen, setBlock]
   · rw [hsub]; have hel : es.toList[j] = e0 := by
      have := GI.1 h2; exact this.2
     have hpe : es.toList.Perm (e0 :: es.toList.eraseIdx j) := by
      have := perm_eraseIdx hjl; rwa [hel] at this
     have h4 := (hpe.map fun e => (e.key, e.val)).symm.trans hp; rw [List.map_cons, List.map_cons] at h4; have e2 : (e0.key, e0.val) = x.kv := by simp [W3.kv, hee.1, hee.2]
     rw [e2] at h4; exact (List.perm_cons _).1 h4
end
def RanIs (W : World) (m r : Nat) (ws left : List W3) : Prop := ∃ es clock since seen c0, W.heap[m]? = some (.map es clock) ∧ Stamped es clock ∧ (es.toList.map fun e => (e.key, e.val)).Perm (ws.map W3.kv) ∧ (∀ x ∈ ws, In64 x.t ∧ In64 x.n) ∧
 W.heap[r]? = some (.mapIter (some m) since seen c0) ∧ (∀ x ∈ es.toList, x.born < since) ∧ since ≤ c0 ∧ since ≤ clock ∧ ((leftOf es seen).toList.map fun e => (e.key, e.val)).Perm (left.map W3.kv)
theorem RanIs.lt {W : World} {m r : Nat} {ws left : List W3} (h : RanIs W m r ws left) : r < W.heap.size ∧ m < W.heap.size ∧ r ≠ m := by
 obtain ⟨es, clock, since, seen, c0, h1, h2, h3, h4, h5, _⟩ := h; refine ⟨(ltA h5), (ltA h1), fun e => ?_⟩; rw [e, h1] at h5; cases h5
theorem RanIs.move {W W' : World} {m r : Nat} {ws left : List W3} (h : RanIs W m r ws left) (hm : W'.heap[m]? = W.heap[m]?) (hr : W'.heap[r]? = W.heap[r]?) : RanIs W' m r ws left := by
 obtain ⟨es, clock, since, seen, c0, h1, h2, h3, h4, h5, h6⟩ := h; exact ⟨es, clock, since, seen, c0, hm.trans h1, h2, h3, h4, hr.trans h5, h6⟩
theorem MapIs.range {W : World} {m : Nat} {ws : List W3} (h : MapIs W m ws) : ∃ W', (Instr.range 147 (.map (some m))).run Tryz.prog W = .ok (.pointer (some ⟨W.heap.size, 0, none⟩)) W' ∧ RanIs W' m W.heap.size ws ws ∧ Below W.heap.size W W' ∧ W'.heap.size = W.heap.size + 1 := by
 have hlt := h.lt; obtain ⟨es, clock, hb, hst, hp, hr⟩ := h; refine ⟨_, run_range_map W 147 114 3 m es clock Tryz.underlying147 hb, ⟨es, clock, clock, #[], clock, ((MapKept.heap_alloc W _).2 m hlt).trans hb, hst, hp, hr, (MapKept.heap_alloc W _).1, ((stamped_iff es clock).1 hst).1, NR _, NR _, ?_⟩, (BR _ _).alloc (NR _) _, by simp⟩; have e1 : leftOf es #[] = es := by
  unfold leftOf; exact Array.filter_eq_self.2 (fun x hx => by simp)
 rw [e1]; exact hp
theorem RanIs.next {W : World} {m r : Nat} {ws left : List W3} (h : RanIs W m r ws left) (ty : TypeId) :
 (left = [] ∧ (Instr.next (.pointer (some ⟨r, 0, none⟩)) false ty).run Tryz.prog W = .ok (.tuple #[.bool false]) W) ∨
 ∃ x left' W', left.Perm (x :: left') ∧ (Instr.next (.pointer (some ⟨r, 0, none⟩)) false ty).run Tryz.prog W = .ok (.tuple #[.bool true, keyV x.t x.n, .int .i64 x.a]) W' ∧ RanIs W' m r ws left' ∧ Keeps [r] W W' ∧ W'.heap.size = W.heap.size ∧
  (Instr.entry (.pointer (some ⟨r, 0, none⟩))).run Tryz.prog W' = .ok (.tuple #[keyV x.t x.n, .int .i64 x.a]) W' := by
 obtain ⟨hrl, hml, hne⟩ := h.lt; obtain ⟨es, clock, since, seen, c0, hb, hst, hp, hin, hr, hold, hsc, hsk, hl⟩ := h; have hst' := (stamped_iff es clock).1 hst; rcases run_next_at (P := Tryz.prog) W ty r m since c0 seen es clock hr hb hold hsc with ⟨h0, hrun⟩ | ⟨e, he, w1, hal, hrun⟩
 · left; refine ⟨?_, hrun⟩; have := hl.length_eq; simp [h0] at this; exact List.eq_nil_of_length_eq_zero this.symm
 · right; obtain ⟨hem, hes⟩ := Go.mem_left he; have h1 : (e.key, e.val) ∈ left.map W3.kv := hl.mem_iff.1 (List.mem_map.2 ⟨e, he, rfl⟩); obtain ⟨x, hx, hxe⟩ := List.mem_map.1 h1; have hk : e.key = keyV x.t x.n := (congrArg Prod.fst hxe).symm; have hv : e.val = .int .i64 x.a := (congrArg Prod.snd hxe).symm; obtain ⟨q, hq, hqe⟩ := List.getElem_of_mem hx; have hpx : left.Perm (x :: left.eraseIdx q) := by
    have := perm_eraseIdx hq; rwa [hqe] at this
   have hr1 : w1.heap[r]? = some (.mapIter (some m) since seen c0) := by rcases hal with rfl | rfl <;> exact hr
   have hb1 : w1.heap[m]? = some (.map es clock) := by rcases hal with rfl | rfl <;> exact hb
   have hset := heap_set (o' := .mapIter (some m) since (seen.push e.born) clock) hr1; have hb' : (setBlock w1 r (.mapIter (some m) since (seen.push e.born) clock)).heap[m]? = some (.map es clock) := (hset.2 m (fun e1 => hne e1.symm)).trans hb1; have hleft : ((leftOf es (seen.push e.born)).toList.map fun e => (e.key, e.val)).Perm ((left.eraseIdx q).map W3.kv) := by
    have hnd : ((leftOf es seen).toList.map (·.born)).Nodup := by
     have : ((leftOf es seen).toList.map (·.born)).Sublist (es.toList.map (·.born)) := by
      unfold leftOf; rw [Array.toList_filter]; exact List.Sublist.map _ List.filter_sublist
     exact this.nodup hst'.2.1
    obtain ⟨i, hi, hie⟩ := List.getElem_of_mem he; have e1 : (leftOf es (seen.push e.born)).toList = (leftOf es seen).toList.filter (fun y => !(y.born == e.born)) := by
     unfold leftOf; rw [Array.toList_filter, Array.toList_filter, List.filter_filter]; refine List.filter_congr (fun y _ => ?_); rw [contains_push]; cases seen.contains y.born <;> cases (y.born == e.born) <;> rfl
    have hp2 : (leftOf es seen).toList.Perm (e :: (leftOf es seen).toList.eraseIdx i) := by
     have := perm_eraseIdx hi; rwa [hie] at this
    have hnd2 : (e.born :: ((leftOf es seen).toList.eraseIdx i).map (·.born)).Nodup := (List.Perm.nodup_iff (hp2.map (fun y : MapEntry => y.born))).1 hnd; have e2 : ((leftOf es seen).toList.filter (fun y => !(y.born == e.born))).Perm ((leftOf es seen).toList.eraseIdx i) := by
     refine (hp2.filter _).trans ?_; rw [List.filter_cons]; simp only [beq_self_eq_true, Bool.not_true, Bool.false_eq_true, if_false]; refine List.Perm.of_eq (List.filter_eq_self.2 (fun y hy => ?_)); have := (List.nodup_cons.1 hnd2).1; have hyb : y.born ≠ e.born := fun e3 => this (e3 ▸ List.mem_map.2 ⟨y, hy, rfl⟩); simpa using hyb
    rw [e1]; have h5 := (hp2.map fun e => (e.key, e.val)).symm.trans (hl.trans (hpx.map _)); rw [List.map_cons, List.map_cons] at h5; have e4 : (e.key, e.val) = x.kv := by simp [W3.kv, hk, hv]
    rw [e4] at h5; exact (e2.map _).trans ((List.perm_cons _).1 h5)
   refine ⟨x, left.eraseIdx q, setBlock w1 r (.mapIter (some m) since (seen.push e.born) clock), hpx, by rw [hrun, hk, hv], ⟨es, clock, since, seen.push e.born, clock, hb', hst, hp, hin, hset.1, hold, hsk, hsk, hleft⟩, ?_, ?_, ?_⟩
   · rcases hal with rfl | rfl <;> exact ⟨rfl, rfl, rfl, by simp [setBlock], fun i _ hi => hset.2 i (fun e1 => hi (by simp [e1]))⟩
   · rcases hal with rfl | rfl <;> simp [setBlock]
   · rw [← hk, ← hv]; exact run_entry_at _ r m since seen es clock e hset.1 hb' hem hst'.2.1
end
end Go.Proofs.YtoopeamoejmjeaaGreat.Tm
namespace Go.Proofs.YtoopeamoejmjeaaGreat.Tm
open RowKit Tp
structure S48 where
 f0 : Int
 f1 : Int
def z48 : S48 := ⟨0, 0⟩
def W3.lt (x y : W3) : Prop := x.t < y.t ∨ (x.t = y.t ∧ x.n < y.n)
def ltD (x y : S48) : Prop := x.f0 < y.f0 ∨ (x.f0 = y.f0 ∧ x.f1 < y.f1)
instance (x y : W3) : Decidable (x.lt y) := inferInstanceAs (Decidable (_ ∨ _))
instance (x y : S48) : Decidable (ltD x y) := inferInstanceAs (Decidable (_ ∨ _))
def W3.due (x : W3) : S48 := ⟨x.t, x.n⟩
theorem W3.lt_trans {x y z : W3} (h : x.lt y) (k : y.lt z) : x.lt z := by unfold W3.lt at *; omega
theorem ltD_trans {x y z : S48} (h : ltD x y) (k : ltD y z) : ltD x z := by unfold ltD at *; omega
theorem ltD_irrefl (x : S48) : ¬ ltD x x := by unfold ltD; omega
def Sorted (ws : List W3) : Prop := ws.Pairwise W3.lt
def ins (x : W3) : List W3 → List W3
 | [] => [x]
 | y :: l => if y.lt x then y :: ins x l else x :: y :: l
theorem ins_perm (x : W3) : ∀ l : List W3, (ins x l).Perm (x :: l)
 | [] => List.Perm.refl _
 | y :: l => by
  rw [ins]; split
  · exact ((ins_perm x l).cons y).trans (List.Perm.swap x y l)
  · exact List.Perm.refl _
theorem mem_ins {x y : W3} {l : List W3} : y ∈ ins x l ↔ y = x ∨ y ∈ l := by
 rw [(ins_perm x l).mem_iff, List.mem_cons]
theorem ins_length (x : W3) (l : List W3) : (ins x l).length = l.length + 1 := by
 rw [(ins_perm x l).length_eq, List.length_cons]
theorem ins_sorted {x : W3} : ∀ {l : List W3}, Sorted l → (∀ y ∈ l, ¬ (y.t = x.t ∧ y.n = x.n)) → Sorted (ins x l)
 | [], _, _ => List.pairwise_singleton _ _
 | y :: l, h, hn => by
  obtain ⟨h1, h2⟩ := List.pairwise_cons.1 h; rw [ins]; split
  · rename_i hy; refine List.pairwise_cons.2 ⟨fun z hz => ?_, ins_sorted h2 (fun z hz => hn z (by simp [hz]))⟩; rcases mem_ins.1 hz with rfl | hz
    · exact hy
    · exact h1 z hz
  · rename_i hy; have hxy : x.lt y := by
     have := hn y (by simp); unfold W3.lt at *; omega
    refine List.pairwise_cons.2 ⟨fun z hz => ?_, h⟩; rcases List.mem_cons.1 hz with rfl | hz
    · exact hxy
    · exact W3.lt_trans hxy (h1 z hz)
def clamp (q : Int) : Int := max 0 (min q 1048576)
theorem clamp_bd (q : Int) : 0 ≤ clamp q ∧ clamp q ≤ 1048576 := by unfold clamp; omega
def late : List Int → Int
 | [] => 0
 | q :: _ => clamp q
theorem late_bd (qs : List Int) : 0 ≤ late qs ∧ late qs ≤ 1048576 := by
 cases qs with
 | nil => exact ⟨Int.le_refl _, by decide⟩
 | cons q qs => exact clamp_bd q
def rel (now : Int) : Int → List Int → List Int → List W3 → List W3
 | _, [], _, ws => ws
 | i, p :: ps, qs, ws => if now % p = 0 then rel now (i + 1) ps qs.tail (ins ⟨i, now, now + late qs⟩ ws) else rel now (i + 1) ps qs ws
def told (now : Int) (ws : List W3) : List W3 := ws.filter (fun x => decide (x.a ≤ now))
def left (now : Int) (ws : List W3) : List W3 := ws.filter (fun x => !decide (x.a ≤ now))
structure Good (ps : List Int) (now : Nat) (ws : List W3) : Prop where
 sorted : Sorted ws
 task : ∀ x ∈ ws, 0 ≤ x.t ∧ x.t < ps.length
 nom : ∀ x ∈ ws, 0 ≤ x.n ∧ x.n < (now : Int)
 at_ : ∀ x ∈ ws, x.n ≤ x.a ∧ x.a ≤ x.n + 1048576
 len : ws.length ≤ 8 * now
structure PsOk (ps : List Int) : Prop where
 pos : 0 < ps.length
 le : ps.length ≤ 8
 each : ∀ p ∈ ps, 1 ≤ p ∧ p ≤ 1048576
structure Mid (ps : List Int) (now i : Nat) (ws : List W3) : Prop where
 sorted : Sorted ws
 task : ∀ x ∈ ws, 0 ≤ x.t ∧ x.t < ps.length
 nom : ∀ x ∈ ws, 0 ≤ x.n ∧ x.n ≤ (now : Int) ∧ (x.n = now → x.t < i)
 at_ : ∀ x ∈ ws, x.n ≤ x.a ∧ x.a ≤ x.n + 1048576
 len : ws.length ≤ 8 * now + i
theorem Good.mid {ps : List Int} {now : Nat} {ws : List W3} (h : Good ps now ws) : Mid ps now 0 ws :=
 ⟨h.sorted, h.task, fun x hx => by have := h.nom x hx; omega, h.at_, by have := h.len; omega⟩
theorem Mid.skip {ps : List Int} {now i : Nat} {ws : List W3} (h : Mid ps now i ws) : Mid ps now (i + 1) ws :=
 ⟨h.sorted, h.task, fun x hx => by have := h.nom x hx; omega, h.at_, by have := h.len; omega⟩
theorem Mid.new {ps : List Int} {now i : Nat} {ws : List W3} (h : Mid ps now i ws) : ∀ y ∈ ws, ¬ (y.t = (i : Int) ∧ y.n = (now : Int)) := fun y hy e => by
 have := (h.nom y hy).2.2 e.2; omega
theorem Mid.ins {ps : List Int} {now i : Nat} {ws : List W3} (h : Mid ps now i ws) (hi : i < ps.length) (a : Int) (ha : (now : Int) ≤ a ∧ a ≤ now + 1048576) : Mid ps now (i + 1) (ins ⟨i, now, a⟩ ws) := by
 have hm : ∀ x ∈ Tm.ins ⟨i, now, a⟩ ws, x = ⟨i, now, a⟩ ∨ x ∈ ws := fun x hx => mem_ins.1 hx; refine ⟨ins_sorted h.sorted h.new, fun x hx => ?_, fun x hx => ?_, fun x hx => ?_, by rw [ins_length]; have := h.len; omega⟩
 · rcases hm x hx with rfl | hx
   · exact ⟨Int.natCast_nonneg _, by show (i : Int) < _; omega⟩
   · exact h.task x hx
 · rcases hm x hx with rfl | hx
   · exact ⟨Int.natCast_nonneg _, Int.le_refl _, fun _ => by show (i : Int) < _; omega⟩
   · have := h.nom x hx; omega
 · rcases hm x hx with rfl | hx
   · exact ha
   · exact h.at_ x hx
theorem rel_mid (ps0 : List Int) (now : Nat) (hl : ps0.length ≤ 8) : ∀ (ps qs : List Int) (i : Nat) (ws : List W3), i + ps.length = ps0.length → Mid ps0 now i ws → Mid ps0 now ps0.length (rel now i ps qs ws) := by
 intro ps; induction ps with
 | nil =>
  intro qs i ws hi h; rw [rel]; have : i = ps0.length := by simpa using hi
  rw [← this]; exact h
 | cons p ps ih =>
  intro qs i ws hi h; rw [List.length_cons] at hi; rw [rel]; split
  · have := late_bd qs; exact ih qs.tail (i + 1) _ (by omega) (h.ins (by omega) _ (by omega))
  · exact ih qs (i + 1) ws (by omega) h.skip
theorem eq_of_sorted : ∀ {a b : List S48}, a.Pairwise ltD → b.Pairwise ltD → a.Perm b → a = b
 | [], b, _, _, h => (List.nil_perm.1 h).symm
 | x :: a, [], _, _, h => by have := h.length_eq; simp at this
 | x :: a, y :: b, h1, h2, h => by
  obtain ⟨a1, a2⟩ := List.pairwise_cons.1 h1; obtain ⟨b1, b2⟩ := List.pairwise_cons.1 h2; have hxy : x = y := by
   rcases List.mem_cons.1 (h.mem_iff.1 (List.mem_cons_self)) with e | hx
   · exact e
   · rcases List.mem_cons.1 (h.mem_iff.2 (List.mem_cons_self)) with e | hy
     · exact e.symm
     · exact absurd (ltD_trans (a1 y hy) (b1 x hx)) (ltD_irrefl x)
  subst hxy; rw [eq_of_sorted a2 b2 ((List.perm_cons _).1 h)]
theorem due_sorted {ws : List W3} (h : Sorted ws) : (ws.map W3.due).Pairwise ltD := List.pairwise_map.2 (h.imp (fun {a b} h => h))
end Go.Proofs.YtoopeamoejmjeaaGreat.Tm
namespace Go.Proofs.YtoopeamoejmjeaaGreat.Tm
open RowKit YtoopeamoejmjeaaGreatW.PrintWords YtoopeamoejmjeaaGreatW.PrintLast YtoopeamoejmjeaaGreatW.PrintMore Tp
section
attribute [local go_sem] max2_int min2_int max_two min_two
def enc2 (x : S48) : List Value := [O Y x.f0, O Y x.f1]
theorem enc2_len (x : S48) : (enc2 x).length = 2 := rfl
theorem flat_len (l : List S48) : (l.flatMap enc2).length = l.length * 2 := by
 induction l with
 | nil => rfl
 | cons x l ih => rw [List.flatMap_cons, List.length_append, ih, enc2_len, List.length_cons]; omega
theorem flat_get (l : List S48) : ∀ (j i : Nat), i < 2 → (l.flatMap enc2)[j * 2 + i]? = (l[j]?).bind fun x => (enc2 x)[i]? := by
 induction l with
 | nil => intro j i _; simp
 | cons x l ih =>
  intro j i hi; rw [List.flatMap_cons]; cases j with
  | zero =>
   rw [Nat.zero_mul, Nat.zero_add, List.getElem?_append_left (by rw [enc2_len]; exact hi)]; rfl
  | succ j =>
   rw [List.getElem?_append_right (by rw [enc2_len]; omega), enc2_len, show (j + 1) * 2 + i - 2 = j * 2 + i by omega, ih j i hi]; rfl
theorem flat_one (l : List S48) : ∀ u ∈ l.flatMap enc2, u.oneCell' = true := by
 intro u hu; obtain ⟨x, _, hx⟩ := List.mem_flatMap.1 hu; simp only [enc2, List.mem_cons, List.not_mem_nil, or_false] at hx; rcases hx with rfl | rfl <;> rfl
theorem flat_append (l m : List S48) : (l ++ m).flatMap enc2 = l.flatMap enc2 ++ m.flatMap enc2 := List.flatMap_append
def RowIs (w : World) (B : Nat) (v : Value) (l : List S48) : Prop := LRow w B 114 2 v l.length (l.flatMap enc2)
theorem RowIs.step {w w1 : World} {B : Nat} {v : Value} {l : List S48} (h : RowIs w B v l) (hb : Below w.heap.size w w1) : RowIs w1 B v l := h.move (fun k hk => hb.block k (h.lt k hk).1)
theorem RowIs.nil (w : World) (B : Nat) : RowIs w B (.slice none 0 0) [] := ⟨rfl, .inl ⟨rfl, rfl⟩⟩
theorem add_plain (b o : Nat) : (⟨b, 0, none⟩ : Addr).add o = ⟨b, o, none⟩ := by unfold Addr.add; split <;> simp_all
theorem LRow.low {w : World} {B B' e size n : Nat} {v : Value} {xs : List Value} (h : LRow w B e size v n xs) (hb : B' ≤ B) : LRow w B' e size v n xs := by
 obtain ⟨h1, h2⟩ := h; refine ⟨h1, ?_⟩; rcases h2 with h2 | ⟨g, cap, cur, h3, h4, h5⟩
 · exact .inl h2
 · exact .inr ⟨g, cap, cur, h3, Nat.le_trans hb h4, h5⟩
theorem LRow.put {w : World} {B e size n c g : Nat} {xs : List Value} (h : LRow w B e size (.slice (some ⟨g, 0, none⟩) n c) n xs) (j : Nat) (u : Value) : LRow (w.setCell ⟨g, j, none⟩ u) B e size (.slice (some ⟨g, 0, none⟩) n c) n (xs.set j u) := by
 obtain ⟨h1, h2⟩ := h; refine ⟨by rw [List.length_set]; exact h1, ?_⟩; rcases h2 with ⟨h3, _⟩ | ⟨g', cap, cur, h3, h4, h5, h6, h7, h8, h9⟩
 · cases h3
 · injection h3 with h3 _ h3c
   injection h3 with h3
   injection h3 with h3
   subst h3 h3c; refine .inr ⟨g, c, cur.setIfInBounds j u, rfl, h4, blk_set h5 j u, h6, h7, by rw [Array.size_setIfInBounds]; exact h8, ?_⟩; rw [Array.toList_setIfInBounds, List.take_set, h9]
theorem flat_set (l : List S48) (j : Nat) (y : S48) : (l.set j y).flatMap enc2 = ((l.flatMap enc2).set (j * 2) (O Y y.f0)).set (j * 2 + 1) (O Y y.f1) := by
 apply List.ext_getElem?; intro i; obtain ⟨q, r, hr, rfl⟩ : ∃ q r, r < 2 ∧ i = q * 2 + r := ⟨i / 2, i % 2, by omega, by omega⟩
 rw [flat_get _ q r hr, List.getElem?_set, List.getElem?_set, List.getElem?_set, flat_get _ q r hr, List.length_set, flat_len]; by_cases hq : j = q
 · subst hq; rw [if_pos rfl]; by_cases hl : j < l.length
   · rw [if_pos hl]; match r, hr with
     | 0, _ => rw [if_neg (by omega), if_pos (by omega), if_pos (by omega)]; rfl
     | 1, _ => rw [if_pos (by omega), if_pos (by omega)]; rfl
   · rw [if_neg hl]; have : l[j]? = none := List.getElem?_eq_none (by omega); match r, hr with
     | 0, _ => rw [if_neg (by omega), if_pos (by omega), if_neg (by omega)]; rfl
     | 1, _ => rw [if_pos (by omega), if_neg (by omega)]; rfl
 · rw [if_neg hq]; match r, hr with
   | 0, _ => rw [if_neg (by omega), if_neg (by omega)]
   | 1, _ => rw [if_neg (by omega), if_neg (by omega)]
theorem info48 : (Tryz.prog.info? 114).map (fun i => (i.zero, i.size, i.bytes)) = some (some (.agg #[O Y 0, O Y 0]), 2, 16) := by kernel_rfl
theorem info3 : (Tryz.prog.info? 3).map (fun i => (i.zero, i.size, i.bytes)) = some (some (O Y 0), 1, 8) := by kernel_rfl
structure TimAt (W : World) (g m : Nat) (pv : Value) (now : Nat) (ws : List W3) : Prop where
 blk : W.heap[g]? = some (.cells #[pv, O Y now, .map (some m)] 149 (0, 0))
 map : MapIs W m ws
section
variable {W W' : World} {g m : Nat} {pv : Value} {now : Nat} {ws : List W3}
theorem TimAt.lt (h : TimAt W g m pv now ws) : g < W.heap.size ∧ m < W.heap.size := ⟨(ltA h.blk), h.map.lt⟩
theorem TimAt.ne (h : TimAt W g m pv now ws) : g ≠ m := by
 intro e; obtain ⟨es, clock, h1, _⟩ := h.map; have := h.blk; rw [e, h1] at this; cases this
theorem TimAt.move (h : TimAt W g m pv now ws) (h1 : W'.heap[g]? = W.heap[g]?) (h2 : W'.heap[m]? = W.heap[m]?) : TimAt W' g m pv now ws := ⟨h1.trans h.blk, h.map.move h2⟩
theorem TimAt.step (h : TimAt W g m pv now ws) (hb : Below W.heap.size W W') : TimAt W' g m pv now ws := h.move (hb.block g h.lt.1) (hb.block m h.lt.2)
theorem TimAt.c0 (h : TimAt W g m pv now ws) : W.cell? ⟨g, 0, none⟩ = some pv := (blk_cell h.blk 0).trans rfl
theorem TimAt.c1 (h : TimAt W g m pv now ws) : W.cell? ⟨g, 1, none⟩ = some (O Y now) := (blk_cell h.blk 1).trans rfl
theorem TimAt.c2 (h : TimAt W g m pv now ws) : W.cell? ⟨g, 2, none⟩ = some (.map (some m)) := (blk_cell h.blk 2).trans rfl
theorem TimAt.fr (h : TimAt W g m pv now ws) (o : Nat) : W.frozen? ⟨g, o, none⟩ = false := blk_frozen h.blk o
theorem cell_ne_map {b o : Nat} {v : Value} (h : MapIs W m ws) (hc : W.cell? ⟨b, o, none⟩ = some v) : b ≠ m := by
 rintro rfl; obtain ⟨es, clock, h1, _⟩ := h; simp [World.cell?, h1] at hc
end
def PsAt (W : World) (b : Nat) (ps : List Int) : Prop := ∀ i, i < ps.length → W.cell? ⟨b, i, none⟩ = some (O Y (ps.getD i 0))
theorem there_is (w : World) (g m : Nat) (h : w.cell? ⟨g, 2, none⟩ = some (.map (some m))) : Calls Tryz.prog 117 #[.pointer (some ⟨g, 0, none⟩)] w fun e w' => e = .returned (.bool true) ∧ w = w' := by
 have hq := Go.run_neq_map_nil (P := Tryz.prog) w 147 114 3 (some m) Tryz.underlying147; go_enter Tryz.func117, Tryz.ntmps117; go_wp2; go_ret; exact ⟨rfl, rfl⟩
theorem now_is (w : World) (g : Nat) (n : Int) (h : w.cell? ⟨g, 1, none⟩ = some (O Y n)) : Calls Tryz.prog 42 #[.pointer (some ⟨g, 0, none⟩)] w fun e w' => e = .returned (O Y n) ∧ w = w' := by
 go_enter Tryz.func42, Tryz.ntmps42; go_wp2; go_ret; exact ⟨rfl, rfl⟩
end
end Go.Proofs.YtoopeamoejmjeaaGreat.Tm
