/- Steps of the walk, merged and shortened by a program (fit.py). -/
import Derived.BigQuiet
import Derived.Carry
import Derived.Deep.QuietTactic
import Derived.Deep.Slices
import Derived.KernelRfl
import Derived.Lib.Hide
import Derived.StillTailTactics
import Derived.WalkKit
import Derived.Test.YtoopeamoejmjeaaGreatA01
import Derived.Test.YtoopeamoejmjeaaGreatA04
import Derived.Test.YtoopeamoejmjeaaGreatWCut
set_option linter.unusedVariables false
set_option linter.unusedSimpArgs false
set_option maxRecDepth 100000
set_option maxHeartbeats 4000000
open Nat renaming le_refl → NR
open List renaming getElem?_eq_getElem → GE
open Go.RowKit.Below renaming refl → BR
open ByteArray renaming empty → BE
open List renaming getD_eq_getElem?_getD → GD
open Array renaming mem_of_getElem? → AM
open List renaming mem_of_getElem? → LM
open List renaming getElem?_eq_some_iff → GI
open List renaming map_toArray → MA
open Go.RowKit.Below renaming heap_setCell → BH
open Go.Lib renaming hid → ZZ
open Go.Value renaming int → O
open Go.IntKind renaming i64 → Y
namespace Go.Proofs.YtoopeamoejmjeaaGreat.Tm
open RowKit YtoopeamoejmjeaaGreatW.PrintWords YtoopeamoejmjeaaGreatW.PrintLast YtoopeamoejmjeaaGreatW.PrintMore Tp
section
attribute [local go_sem] max2_int min2_int max_two min_two
section
variable {ops : Array Oper} {rest : List Oper} {o : Oper} {a : Act} {Q : Exit → Act → World → Prop}
theorem wpList_rangeD (w : World) (hg : o.guard = none) (x : Operand) (hop : o.op = Op.range 147 x) (m : Nat) (ws : List W3) (hm : a.eval x = .map (some m)) (h : MapIs w m ws)
 (hK : ∀ w', RanIs w' m w.heap.size ws ws → Below w.heap.size w w' → w'.heap.size = w.heap.size + 1 → wpList Tryz.prog ops Q rest (a.put o.dst (.pointer (some ⟨w.heap.size, 0, none⟩))) w') : wpList Tryz.prog ops Q (o :: rest) a w := by
 refine wpList_plain hg fun K' hK' => ?_; obtain ⟨w', hrun, r1, r2, r3⟩ := h.range; unfold Oper.wp; simp [execOp, hop, hm, hrun, Result.andThen]; exact hK' _ _ (hK w' r1 r2 r3)
theorem wpList_nextD (w : World) (hg : o.guard = none) (it : Operand) (hop : o.op = Op.next it false) (m r : Nat) (ws left : List W3) (hit : a.eval it = .pointer (some ⟨r, 0, none⟩)) (h : RanIs w m r ws left)
 (hDone : left = [] → wpList Tryz.prog ops Q rest (a.put o.dst (.tuple #[.bool false])) w)
 (hMore : ∀ x left' w', left.Perm (x :: left') → RanIs w' m r ws left' → Keeps [r] w w' → w'.heap.size = w.heap.size → (Instr.entry (.pointer (some ⟨r, 0, none⟩))).run Tryz.prog w' = .ok (.tuple #[.agg #[O Y x.t, O Y x.n], O Y x.a]) w' →
  wpList Tryz.prog ops Q rest (a.put o.dst (.tuple #[.bool true, .agg #[O Y x.t, O Y x.n], O Y x.a])) w') : wpList Tryz.prog ops Q (o :: rest) a w := by
 refine wpList_plain hg fun K' hK' => ?_; unfold Oper.wp; rcases h.next o.type with ⟨h0, hrun⟩ | ⟨x, left', w', hp, hrun, hr, hk, hs, hen⟩
 · simp [execOp, hop, hit, hrun, Result.andThen]; exact hK' _ _ (hDone h0)
 · simp [execOp, hop, hit, hrun, Result.andThen]; exact hK' _ _ (hMore x left' w' hp hr hk hs hen)
end
theorem RanIs.left_eq {W : World} {m r : Nat} {ws left : List W3} (h : RanIs W m r ws left) : W.rangeLeft m r = left.length := by
 obtain ⟨es, clock, since, seen, c0, hb, _, _, _, hr, _, _, _, hl⟩ := h; simp only [World.rangeLeft, hb, hr]; have := hl.length_eq; simpa using this
def WaitPost (w : World) (ws : List W3) (e : Ending) (w' : World) : Prop := ∃ v, e = .returned v ∧ RowIs w' w.heap.size v (ws.map W3.due) ∧ Below w.heap.size w w'
def WaitRel (w : World) (m : Nat) (ws : List W3) (v : Value) (wr : World) : Prop := ∃ (left : List W3) (s : List S48), RanIs wr m w.heap.size ws left ∧ RowIs wr w.heap.size v s ∧ s.Pairwise ltD ∧ (s ++ left.map W3.due).Perm (ws.map W3.due) ∧ Below w.heap.size w wr
def WaitIn (w : World) (m : Nat) (ws left' : List W3) (s : List S48) (d : S48) (g1 c : Nat) (vi : Value) (wr : World) : Prop := ∃ A B : List S48, s = A ++ B ∧ vi = O Y (A.length : Int) ∧ RanIs wr m w.heap.size ws left' ∧ LRow wr w.heap.size 114 2 (.slice (some ⟨g1, 0, none⟩) (s.length + 1) c) (s.length + 1) ((A ++ d :: B).flatMap enc2) ∧ (∀ b ∈ B, ltD d b) ∧ Below w.heap.size w wr
theorem ahead_any (x y : S48) (w : World) : Calls Tryz.prog 147 #[.agg #[O Y x.f0, O Y x.f1], .agg #[O Y y.f0, O Y y.f1]] w fun e w' => e = .returned (.bool (decide (ltD x y))) ∧ Below w.heap.size w w' := by
 obtain ⟨x0, x1⟩ := x; obtain ⟨y0, y1⟩ := y; have hB := ZZ (((BR w.heap.size w).alloc (NR _) (.cells #[O Y x0, O Y x1] 114)).alloc (by simp) (.cells #[O Y y0, O Y y1] 114)); by_cases h1 : x0 < y0
 · have d1 : decide (x0 < y0) = true := decide_eq_true h1; have hp := ZZ (show ltD ⟨x0, x1⟩ ⟨y0, y1⟩ from .inl h1); clear h1; go_enter Tryz.func147, Tryz.ntmps147; go_wp2_with fail; go_ret; exact ⟨by rw [decide_eq_true hp.out]; rfl, hB.out⟩
 · have d1 : decide (x0 < y0) = false := decide_eq_false h1; by_cases h2 : x0 = y0
   · have d2 : (x0 == y0) = true := beq_iff_eq.mpr h2; have hp := ZZ (show decide (ltD ⟨x0, x1⟩ ⟨y0, y1⟩) = decide (x1 < y1) by unfold ltD; simp [h2]); clear h1 h2; go_enter Tryz.func147, Tryz.ntmps147; go_wp2_with fail; go_ret; exact ⟨by rw [hp.out]; rfl, hB.out⟩
   · have d2 : (x0 == y0) = false := beq_eq_false_iff_ne.mpr h2; have hp := ZZ (show ¬ ltD ⟨x0, x1⟩ ⟨y0, y1⟩ from fun h => by rcases h with h | h; exact h1 h; exact h2 h.1); clear h1 h2; go_enter Tryz.func147, Tryz.ntmps147; go_wp2_with fail; go_ret; exact ⟨by rw [decide_eq_false hp.out]; rfl, hB.out⟩
theorem ran_ne {wr : World} {m r B e size n : Nat} {v : Value} {ws left : List W3} {xs : List Value} (h : RanIs wr m r ws left) (hr : LRow wr B e size v n xs) : ∀ k, v.ownBlock = some k → k ≠ m ∧ k ≠ r := by
 intro k hk; obtain ⟨_, _, cur, hc⟩ := LRow.lt hr k hk; obtain ⟨es, clock, since, seen, c0, hb, _, _, _, hq, _⟩ := h; refine ⟨fun e => ?_, fun e => ?_⟩
 · rw [e, hb] at hc; cases hc
 · rw [e, hq] at hc; cases hc
theorem RanIs.step {W W1 : World} {m r : Nat} {ws left : List W3} (h : RanIs W m r ws left) (hb : Below W.heap.size W W1) : RanIs W1 m r ws left := h.move (hb.block m h.lt.2.1) (hb.block r h.lt.1)
theorem LRow.step {w w1 : World} {B e size n : Nat} {v : Value} {xs : List Value} (h : LRow w B e size v n xs) (hb : Below w.heap.size w w1) : LRow w1 B e size v n xs := h.move (fun k hk => hb.block k (LRow.lt h k hk).1)
theorem ran_row {wr w2 : World} {m r B : Nat} {v : Value} {ws left : List W3} {s : List S48} (h : RanIs wr m r ws left) (hr : RowIs wr B v s) (hk : Keeps [r] wr w2) : RowIs w2 B v s :=
 LRow.move hr (fun k hk2 => hk.block k (LRow.lt hr k hk2).1 (by rw [List.mem_singleton]; exact (ran_ne h hr k hk2).2))
theorem below_keeps {B : Nat} {S : List Nat} {w wr w2 : World} (h : Below B w wr) (hk : Keeps S wr w2) (hB : B ≤ wr.heap.size) (hS : ∀ k ∈ S, B ≤ k) : Below B w w2 :=
 h.trans ⟨hk.os, hk.tape, hk.output, by have := hk.size; omega, fun k hk2 => hk.block k (by omega) (fun hm => by have := hS k hm; omega)⟩
theorem ran_grown {w2 W w3 : World} {m r B e size n : Nat} {v : Value} {ws left : List W3} {xs : List Value} (h : RanIs w2 m r ws left) (hr : LRow w2 B e size v n xs) (hb : Below w2.heap.size w2 W) (hg : W.grownBy w3 v.ownBlock) : RanIs w3 m r ws left := by
 obtain ⟨h1, h2, _⟩ := h.lt; have := hb.size; refine h.move ((hg.block m (by omega) (fun e => ?_)).trans (hb.block m h2)) ((hg.block r (by omega) (fun e => ?_)).trans (hb.block r h1))
 · exact (ran_ne h hr m e.symm).1 rfl
 · exact (ran_ne h hr r e.symm).2 rfl
theorem row_some {w : World} {B e size n : Nat} {v : Value} {xs : List Value} (h : LRow w B e size v (n + 1) xs) : ∃ g c, v = .slice (some ⟨g, 0, none⟩) (n + 1) c ∧ B ≤ g ∧ n + 1 ≤ c := by
 rcases h.2 with ⟨_, h3⟩ | ⟨g, cap, cur, h3, h4, h5, h6, h7⟩
 · omega
 · exact ⟨g, cap, h3, h4, h6⟩
theorem cells_at {w : World} {B n c g : Nat} {l : List S48} (h : LRow w B 114 2 (.slice (some ⟨g, 0, none⟩) n c) n (l.flatMap enc2)) (hl : l.length = n) (j : Nat) (x : S48) (hx : l[j]? = some x) : w.cell? ⟨g, j * 2, none⟩ = some (O Y x.f0) ∧ w.cell? ⟨g, j * 2 + 1, none⟩ = some (O Y x.f1) := by
 have h0 := LRow.cell h (j * 2) (O Y x.f0) (by have := flat_get l j 0 (by omega); rw [Nat.add_zero] at this; rw [this, hx]; rfl); have h1 := LRow.cell h (j * 2 + 1) (O Y x.f1) (by rw [flat_get l j 1 (by omega), hx]; rfl); rw [add_plain] at h0 h1; exact ⟨h0, h1⟩
theorem swap_list {A B : List S48} {d : S48} {p : Nat} (hA : A.length = p + 1) : ((A ++ d :: B).set (p + 1) (A.getD p z48)).set p d = A.take p ++ d :: (A.getD p z48 :: B) := by
 have e1 : A = A.take p ++ [A.getD p z48] := by
  have h0 : A.getD p z48 = A[p]'(by omega) := by rw [GD, GE (by omega)]; rfl
  have h1 := List.take_succ_eq_append_getElem (l := A) (i := p) (by omega); have h2 : A.take (p + 1) = A := List.take_of_length_le (by omega); rw [h0]; exact h2.symm.trans h1
 have e2 : (A.take p).length = p := by rw [List.length_take]; omega
 generalize A.getD p z48 = y at *; generalize A.take p = A' at *; subst e1; subst e2; simp [List.set_append]
theorem get_mid {A B : List S48} {d : S48} {p : Nat} (hA : A.length = p + 1) : (A ++ d :: B)[p + 1]? = some d ∧ (A ++ d :: B)[p]? = some (A.getD p z48) ∧ A = A.take p ++ [A.getD p z48] ∧ (A.take p).length = p := by
 have h0 : A.getD p z48 = A[p]'(by omega) := by rw [GD, GE (by omega)]; rfl
 refine ⟨by rw [← hA, List.getElem?_append_right (NR _), Nat.sub_self]; rfl, by rw [List.getElem?_append_left (by omega), h0]; exact GE _, ?_, by rw [List.length_take]; omega⟩; have h1 := List.take_succ_eq_append_getElem (l := A) (i := p) (by omega); have h2 : A.take (p + 1) = A := List.take_of_length_le (by omega); rw [h0]; exact h2.symm.trans h1
theorem wrap_p (p : Nat) (h : p < 100000) : wrap64 ((p : Int) + 1 - 1) = (p : Int) ∧ wrap64 (p : Int) = (p : Int) := by
 constructor <;> (unfold wrap64; omega)
theorem put_swap {w : World} {B n c g : Nat} {A Bs : List S48} {d : S48} {p : Nat} (hA : A.length = p + 1) (h : LRow w B 114 2 (.slice (some ⟨g, 0, none⟩) n c) n ((A ++ d :: Bs).flatMap enc2)) :
 LRow ((((w.setCell ⟨g, (p + 1) * 2, none⟩ (O Y (A.getD p z48).f0)).setCell ⟨g, (p + 1) * 2 + 1, none⟩ (O Y (A.getD p z48).f1)).setCell ⟨g, p * 2, none⟩ (O Y d.f0)).setCell ⟨g, p * 2 + 1, none⟩ (O Y d.f1)) B 114 2 (.slice (some ⟨g, 0, none⟩) n c) n ((A.take p ++ d :: (A.getD p z48 :: Bs)).flatMap enc2) := by
 rw [← swap_list hA, flat_set, flat_set]; exact LRow.put (LRow.put (LRow.put (LRow.put h _ _) _ _) _ _) _ _
theorem ran_put {w : World} {B n c g m r : Nat} {ws left : List W3} {xs : List Value} (h : RanIs w m r ws left) (hr : LRow w B 114 2 (.slice (some ⟨g, 0, none⟩) n c) n xs) (a1 a2 a3 a4 : Nat) (u1 u2 u3 u4 : Value) :
 RanIs ((((w.setCell ⟨g, a1, none⟩ u1).setCell ⟨g, a2, none⟩ u2).setCell ⟨g, a3, none⟩ u3).setCell ⟨g, a4, none⟩ u4) m r ws left := by
 obtain ⟨h1, h2⟩ := ran_ne h hr g rfl; have far : ∀ k, k ≠ g → ((((w.setCell ⟨g, a1, none⟩ u1).setCell ⟨g, a2, none⟩ u2).setCell ⟨g, a3, none⟩ u3).setCell ⟨g, a4, none⟩ u4).heap[k]? = w.heap[k]? := fun k hk =>
  (BH _ ⟨g, a4, none⟩ _ k hk).trans ((BH _ ⟨g, a3, none⟩ _ k hk).trans ((BH _ ⟨g, a2, none⟩ _ k hk).trans (BH _ ⟨g, a1, none⟩ _ k hk)))
 exact h.move (far m (Ne.symm h1)) (far r (Ne.symm h2))
theorem below_all {s A B A' : List S48} {d y : S48} (hs : s.Pairwise ltD) (hsA : s = A ++ B) (hA : A = A' ++ [y]) (h1 : ¬ ltD d y) (h2 : d ≠ y) : ∀ a ∈ A, ltD a d := by
 have hyd : ltD y d := by
  unfold ltD at *; have : ¬ (d.f0 = y.f0 ∧ d.f1 = y.f1) := fun h => h2 (by cases d; cases y; simp_all); omega
 rw [hsA, List.pairwise_append, hA, List.pairwise_append] at hs; intro a ha; rw [hA] at ha; rcases List.mem_append.1 ha with ha | ha
 · exact ltD_trans (hs.1.2.2 a ha y (by simp)) hyd
 · rw [List.mem_singleton] at ha; rw [ha]; exact hyd
theorem d_notin {s r l : List S48} {d : S48} (hl : l.Pairwise ltD) (hp : ((s ++ [d]) ++ r).Perm l) : d ∉ s := by
 intro hd; have h1 : l.Pairwise (fun a b => a ≠ b) := hl.imp (fun {a b} h e => by rw [e] at h; exact ltD_irrefl b h); have h2 := (hp.pairwise_iff (fun {a b} (h : a ≠ b) => h.symm)).2 h1; rw [List.pairwise_append, List.pairwise_append] at h2; exact h2.1.2.2 d hd d (by simp) rfl
theorem wait_end {s A B : List S48} {d : S48} (hs : s.Pairwise ltD) (hsA : s = A ++ B) (hB : ∀ b ∈ B, ltD d b) (hA : ∀ a ∈ A, ltD a d) : (A ++ d :: B).Pairwise ltD := by
 rw [hsA, List.pairwise_append] at hs; rw [List.pairwise_append, List.pairwise_cons]; refine ⟨hs.1, ⟨hB, hs.2.1⟩, fun a ha b hb => ?_⟩; rcases List.mem_cons.1 hb with rfl | hb
 · exact hA a ha
 · exact hs.2.2 a ha b hb
theorem wait_any (g m : Nat) (pv : Value) (now : Nat) (ws : List W3) (w : World) (h : TimAt w g m pv now ws) (hs : Sorted ws) (hl : ws.length ≤ 100000) : Calls Tryz.prog 119 #[.pointer (some ⟨g, 0, none⟩)] w (WaitPost w ws) := by
 have hc2 := h.c2; have hdd := due_sorted hs; have HT := ZZ h; replace hdd := ZZ hdd; have HL := ZZ hl; clear h hs hl; go_enter Tryz.func119, Tryz.ntmps119; go_wp2_with fail; refine (there_is _ g m hc2).mono ?_; rintro e w1 ⟨rfl, rfl⟩; go_wp2_with (first | (at_range; refine wpList_rangeD _ rfl _ rfl m ws rfl HT.out.map ?_; intro w0 hrg hb0 hs0) | fail)
 go_frame; go_loopw [3] (fun v wr => WaitRel w m ws v wr) (fun _ wr => wr.rangeLeft m w.heap.size); case atStart => exact ⟨ws, [], hrg, RowIs.nil _ _, List.Pairwise.nil, List.Perm.refl _, hb0⟩
 case round =>
  obtain ⟨lf, s, hR, hrow, hsor, hperm, hb⟩ := hrel; obtain ⟨A1, c1, rfl, hc1⟩ := LRow.slice hrow; have hmeas := hR.left_eq; replace hmeas := ZZ hmeas; replace hR := ZZ hR; replace hrow := ZZ hrow; replace hsor := ZZ hsor; replace hperm := ZZ hperm; replace hb := ZZ hb; replace hc1 := ZZ hc1; clear hrg hb0 hs0 hc2; go_wp2_with (first | (at_next; refine wpList_nextD _ rfl _ rfl m w.heap.size ws lf rfl hR.out ?_ ?_) | fail)
  · intro hl0; replace hl0 := ZZ hl0; go_wp2_with fail; go_ret; refine ⟨_, rfl, ?_, hb.out⟩; have hp := hperm.out; rw [hl0.out, List.map_nil, List.append_nil] at hp; rw [← eq_of_sorted hsor.out hdd.out hp]; exact hrow.out
  · intro x lf' w2 hpx hR2 hk2 hs2 hen; replace hR2 := ZZ hR2; have hrow2 := ZZ (ran_row hR.out hrow.out hk2); have hbw := hb.out.size; have hb2 := ZZ (below_keeps hb.out hk2 hbw (by simp)); have hsl : s.length ≤ 100000 := by have := hperm.out.length_eq; simp at this; have := HL.out; omega
    have hp2 : Hid (((s ++ [x.due]) ++ lf'.map W3.due).Perm (ws.map W3.due)) := ZZ (by
     refine List.Perm.trans ?_ hperm.out; rw [List.append_assoc]; exact (hpx.map W3.due).symm.append_left s)
    replace hpx := ZZ hpx; clear hk2 hs2; generalize hd : x.due = d at *; have hxt : x.t = d.f0 := by rw [← hd]; rfl
    have hxn : x.n = d.f1 := by rw [← hd]; rfl
    rw [hxt, hxn] at hen ⊢; replace hd := ZZ hd; clear hxt hxn; go_wp2_with (first | (at_builtin; refine wpList_append_loose _ w.heap.size rfl (.tmp 18) (.tmp 20) 167 114 _ 2 16 rfl Tryz.underlying167 info48 rfl (by decide) (by decide) (.slice A1 s.length c1) s.length (s.flatMap enc2) (enc2 d) (some ⟨_, 0, none⟩) 1 1 rfl rfl rfl (fun u hu => flat_one [d] u (by simpa using hu)) ?row ?src ?low ?len ?go) | fail)
    case row => exact RowIs.step hrow2.out (((BR _ _).alloc (NR _) _).alloc (by simp) _)
    case src => exact .inr ⟨_, rfl, by have h := World.news_of_block (cs := #[O Y d.f0, O Y d.f1]) (t := 114) (fr := (0, 0)) (heap_alloc_new (w2.alloc (.cells #[O Y d.f0, O Y d.f1] 114)) (.cells #[O Y d.f0, O Y d.f1] 114)); simpa [enc2] using h⟩
    case low => have := hb2.out.size; simp; omega
    case len => omega
    case go =>
     intro v1 w3 hrow3 hg hr1; have hbl := ((BR w2.heap.size w2).alloc (NR _) (.cells #[O Y d.f0, O Y d.f1] 114)).alloc (by simp) (.cells #[O Y d.f0, O Y d.f1] 114); have hR3 := ZZ (ran_grown hR2.out hrow2.out hbl hg); have hb3 : Hid (Below w.heap.size w w3) := ZZ ((hb2.out.trans (hbl.mono hb2.out.size)).grown hg (Nat.le_trans hb2.out.size hbl.size) (fun k hk => (LRow.lt hrow2.out k hk).2.1)); obtain ⟨g1, c2, rfl, hg1, _⟩ := row_some hrow3; rw [← show (s ++ [d]).flatMap enc2 = s.flatMap enc2 ++ enc2 d by rw [flat_append]; simp] at hrow3; replace hrow3 := ZZ hrow3; clear hg hr1 hbl; have hw0 : wrap64 ((s.length : Int) + 1 - 1) = (s.length : Int) := by unfold wrap64; omega
     go_wp2_with fail; go_loopw [5] (fun vi wr => WaitIn w m ws lf' s d g1 c2 vi wr) (fun vi _ => (intOf vi).toNat); case atStart => exact ⟨s, [], by simp, (by first | rfl | (simp; done) | (congr 1; omega)), hR3.out, hrow3.out, (by simp), hb3.out⟩
     case round =>
      obtain ⟨A, B, hsAB, rfl, hR4, hrow4, hB, hb4⟩ := hrel; have hfr : ∀ o, wr.frozen? ⟨g1, o, none⟩ = false := fun o => by
       obtain ⟨_, _, cur, hc⟩ := LRow.lt hrow4 g1 rfl; exact blk_frozen hc o
      generalize hq : A.length = q at *; have hlenL : (A ++ d :: B).length = s.length + 1 := by rw [hsAB]; simp; omega
      have hqs : q ≤ s.length := by rw [hsAB, List.length_append]; omega
      replace hR4 := ZZ hR4; replace hB := ZZ hB; replace hb4 := ZZ hb4; replace hw0 := ZZ hw0; rcases Nat.eq_zero_or_pos q with hq0 | hq0
      · subst hq0; obtain rfl : A = [] := List.eq_nil_of_length_eq_zero hq; replace hrow4 := ZZ hrow4; replace hsAB := ZZ hsAB; have hd0 : decide ((0 : Int) < 0) = false := by decide
        go_wp2_with fail; go_quiet (fail); go_wp2_with fail; have hbd := pw_below_drewN (BR wr.heap.size wr) nq; go_roundw; case rel => exact ⟨lf', [] ++ d :: B, (RanIs.step hR4.out hbd), (by unfold RowIs; rw [hlenL]; exact LRow.step hrow4.out hbd), wait_end hsor.out hsAB.out hB.out (by simp), by have h5 := hp2.out; rw [hsAB.out] at h5; exact (List.Perm.append_right _ (List.perm_middle.trans (List.perm_append_singleton d ([] ++ B)).symm)).trans h5, hb4.out.trans (hbd.mono hb4.out.size)⟩
        case measure => rw [(RanIs.step hR4.out hbd).left_eq, hmeas.out]; have := hpx.out.length_eq; simp at this; omega
      · obtain ⟨p, rfl⟩ : ∃ p, q = p + 1 := ⟨q - 1, by omega⟩
        obtain ⟨m1, m2, hA1, hAl⟩ := get_mid (B := B) (d := d) hq; obtain ⟨d0, d1⟩ := cells_at hrow4 hlenL (p + 1) d m1; obtain ⟨y0, y1⟩ := cells_at hrow4 hlenL p (A.getD p z48) m2; clear m1 m2; have hput := put_swap hq hrow4; have hran := ran_put hR4.out hrow4 ((p + 1) * 2) ((p + 1) * 2 + 1) (p * 2) (p * 2 + 1) (O Y (A.getD p z48).f0) (O Y (A.getD p z48).f1) (O Y d.f0) (O Y d.f1); generalize hy : A.getD p z48 = y at *; have hps : p < 100000 := by omega
        have hg0 : decide ((0 : Int) < (p : Int) + 1) = true := decide_eq_true (by omega); have hlt1 : (p : Int) + 1 < (s.length : Int) + 1 := by omega
        have hlt2 : (p : Int) < (s.length : Int) + 1 := by omega
        have hmeas2 : (p : Int).toNat < ((p : Int) + 1).toNat := by omega
        replace hmeas2 := ZZ hmeas2; obtain ⟨hw1, hw2⟩ := wrap_p p hps; replace hA1 := ZZ hA1; replace hAl := ZZ hAl; replace hy := ZZ hy; replace hrow4 := ZZ hrow4; replace hsAB := ZZ hsAB; replace hput := ZZ hput; replace hran := ZZ hran; replace hlenL := ZZ hlenL; replace hq := ZZ hq; by_cases hlt : ltD d y
        · have hdt : decide (ltD d y) = true := decide_eq_true hlt; replace hlt := ZZ hlt; go_wp2_with fail; refine st 14 (S := fun w' => (w'.cell? ⟨g1, (p + 1) * 2, none⟩ = some (O Y d.f0) ∧ w'.cell? ⟨g1, (p + 1) * 2 + 1, none⟩ = some (O Y d.f1)) ∧ w'.cell? ⟨g1, p * 2, none⟩ = some (O Y y.f0) ∧ w'.cell? ⟨g1, p * 2 + 1, none⟩ = some (O Y y.f1)) (ds := [12]) ⟨⟨d0, d1⟩, y0, y1⟩ (fun hHeld => ?_); refine pq 0 ?_; refine pq 1 ?_; refine pq 2 ?_; refine pq 3 ?_; refine pq 4 ?_; refine pq 5 ?_; refine pq 7 ?_; refine pq 8 ?_; refine pq 9 ?_; refine pq 10 ?_; refine tk 6 hHeld ?_ (hy := by rintro w' ⟨⟨s0, s1⟩, s2, s3⟩; go_simp; first | with_reducible rfl | rfl); refine tk 11 hHeld ?_ (hy := by rintro w' ⟨⟨s0, s1⟩, s2, s3⟩; go_simp; first | with_reducible rfl | rfl); refine rg2 12 (fun K hK => ?_); refine goes_ Tryz.func147 (by kernel_rfl) rfl #[.agg #[O Y d.f0, O Y d.f1], .agg #[O Y y.f0, O Y y.f1]] (by rfl) rfl rfl (by (try simp only [MA, List.map_cons, List.map_nil]); first | done | rfl) ?_; refine (ahead_any d y _).mono ?_; rintro e w5 ⟨rfl, hb5⟩; refine ⟨_, rfl, ?_⟩; have H5 := ZZ ((BR wr.heap.size wr).drew.trans hb5); clear hb5; refine hK.out _ _ ?_; clear hK K; refine nm ?_; refine pq 13 ?_; refine dn ?_; go_wp2_with fail; have hbc := H5.out; obtain ⟨e0, e1⟩ := cells_at (LRow.step hrow4.out hbc) hlenL.out (p + 1) d (get_mid hq.out).1; obtain ⟨z0, z1⟩ := cells_at (LRow.step hrow4.out hbc) hlenL.out p y (by rw [← hy.out]; exact (get_mid hq.out).2.1); have hfr5 : ∀ o, w5.frozen? ⟨g1, o, none⟩ = false := fun o => by
           obtain ⟨_, _, cur, hc⟩ := LRow.lt (LRow.step hrow4.out hbc) g1 rfl; exact blk_frozen hc o
          have hput5 := put_swap hq.out (LRow.step hrow4.out hbc); have hran5 := ran_put (RanIs.step hR4.out hbc) (LRow.step hrow4.out hbc) ((p + 1) * 2) ((p + 1) * 2 + 1) (p * 2) (p * 2 + 1) (O Y y.f0) (O Y y.f1) (O Y d.f0) (O Y d.f1); have hb5 : Below w.heap.size w w5 := hb4.out.trans (hbc.mono hb4.out.size); have hb6 := (((hb5.setCell (p := ⟨g1, (p + 1) * 2, none⟩) hg1 (O Y y.f0)).setCell (p := ⟨g1, (p + 1) * 2 + 1, none⟩) hg1 (O Y y.f1)).setCell (p := ⟨g1, p * 2, none⟩) hg1 (O Y d.f0)).setCell (p := ⟨g1, p * 2 + 1, none⟩) hg1 (O Y d.f1); rw [hy.out] at hput5; replace hput5 := ZZ hput5; replace hran5 := ZZ hran5; replace hb6 := ZZ hb6; clear d0 d1 y0 y1 hfr hbc hb5; refine st 18 (S := fun w' => (w'.cell? ⟨g1, (p + 1) * 2, none⟩ = some (O Y d.f0) ∧ w'.cell? ⟨g1, (p + 1) * 2 + 1, none⟩ = some (O Y d.f1)) ∧ w'.cell? ⟨g1, p * 2, none⟩ = some (O Y y.f0) ∧ w'.cell? ⟨g1, p * 2 + 1, none⟩ = some (O Y y.f1)) (ds := [15, 17]) ⟨⟨e0, e1⟩, z0, z1⟩ (fun hHeld => ?_); refine pq 0 ?_; refine pq 1 ?_; refine pq 2 ?_; refine pq 3 ?_; refine pq 4 ?_; refine pq 5 ?_; refine pq 6 ?_; refine pq 7 ?_; refine pq 8 ?_; refine pq 10 ?_; refine pq 11 ?_; refine pq 12 ?_; refine tk 9 hHeld ?_ (hy := by rintro w' ⟨⟨s0, s1⟩, s2, s3⟩; go_simp; first | with_reducible rfl | rfl); refine tk 13 hHeld ?_ (hy := by rintro w' ⟨⟨s0, s1⟩, s2, s3⟩; go_simp; first | with_reducible rfl | rfl); refine pq 14 ?_; refine rg2 15 (fun K hK => ?_); refine skip_ (w1 := ?_) (by rfl) rfl ?_ ?_; rotate_left
          · go_simp; rfl
          refine hK.out _ _ ?_; clear hK K; refine pq 16 ?_; refine rg2 17 (fun K hK => ?_); refine skip_ (w1 := ?_) (by rfl) rfl ?_ ?_; rotate_left
          · go_simp; rfl
          refine hK.out _ _ ?_; clear hK K; refine dn ?_; go_wp2_with fail; go_roundw; case rel => exact ⟨A.take p, y :: B, hsAB.out.trans ((congrArg (· ++ B) hA1.out).trans (by simp)), by rw [hAl.out], hran5.out, hput5.out, (fun b hb => by
           rcases List.mem_cons.1 hb with rfl | hb
           · exact hlt.out
           · exact hB.out b hb), hb6.out.drew⟩
          case measure => simp [intOf]
        · have hdt : decide (ltD d y) = false := decide_eq_false hlt; have hall := below_all hsor.out hsAB.out hA1.out hlt (fun e => d_notin hdd.out hp2.out (by rw [hsAB.out, hA1.out, e]; simp)); replace hall := ZZ hall; replace hlt := ZZ hlt; go_wp2_with fail; refine st 14 (S := fun w' => (w'.cell? ⟨g1, (p + 1) * 2, none⟩ = some (O Y d.f0) ∧ w'.cell? ⟨g1, (p + 1) * 2 + 1, none⟩ = some (O Y d.f1)) ∧ w'.cell? ⟨g1, p * 2, none⟩ = some (O Y y.f0) ∧ w'.cell? ⟨g1, p * 2 + 1, none⟩ = some (O Y y.f1)) (ds := [12]) ⟨⟨d0, d1⟩, y0, y1⟩ (fun hHeld => ?_); refine pq 0 ?_; refine pq 1 ?_; refine pq 2 ?_; refine pq 3 ?_; refine pq 4 ?_; refine pq 5 ?_; refine pq 7 ?_; refine pq 8 ?_; refine pq 9 ?_; refine pq 10 ?_; refine tk 6 hHeld ?_ (hy := by rintro w' ⟨⟨s0, s1⟩, s2, s3⟩; go_simp; first | with_reducible rfl | rfl); refine tk 11 hHeld ?_ (hy := by rintro w' ⟨⟨s0, s1⟩, s2, s3⟩; go_simp; first | with_reducible rfl | rfl); refine rg2 12 (fun K hK => ?_); refine goes_ Tryz.func147 (by kernel_rfl) rfl #[.agg #[O Y d.f0, O Y d.f1], .agg #[O Y y.f0, O Y y.f1]] (by rfl) rfl rfl (by (try simp only [MA, List.map_cons, List.map_nil]); first | done | rfl) ?_; refine (ahead_any d y _).mono ?_; rintro e w5 ⟨rfl, hb5⟩; refine ⟨_, rfl, ?_⟩; have H5 := ZZ ((BR wr.heap.size wr).drew.trans hb5); clear hb5; refine hK.out _ _ ?_; clear hK K; refine nm ?_; refine pq 13 ?_; refine dn ?_; go_wp2_with fail; have hbc := H5.out; go_roundw; case rel => exact ⟨lf', A ++ d :: B, (RanIs.step hR4.out hbc), (by unfold RowIs; rw [hlenL.out]; exact LRow.step hrow4.out hbc), wait_end hsor.out hsAB.out hB.out hall.out, by have h5 := hp2.out; rw [hsAB.out] at h5; exact (List.Perm.append_right _ (List.perm_middle.trans (List.perm_append_singleton d (A ++ B)).symm)).trans h5, hb4.out.trans (hbc.mono hb4.out.size)⟩
          case measure => rw [(RanIs.step hR4.out hbc).left_eq, hmeas.out]; have := hpx.out.length_eq; simp at this; omega
end
section
attribute [local go_sem] max2_int min2_int max_two min_two
def PkAt (w : World) (A : Option Addr) (c : Nat) (qs : List Int) : Prop := qs.length ≤ c ∧ ∀ i, i < qs.length → ∃ ad, A = some ad ∧ w.cell? (ad.add i) = some (O Y (qs.getD i 0))
theorem PkAt.tail {w : World} {ad : Addr} {c : Nat} {q : Int} {qs : List Int} (h : PkAt w (some ad) c (q :: qs)) : (c = 1 → PkAt w (some ad) 0 qs) ∧ PkAt w (some (ad.add 1)) (c - 1) qs := by
 obtain ⟨h1, h2⟩ := h; rw [List.length_cons] at h1; have h3 : ∀ i, i < qs.length → ∃ ad', some (ad.add 1) = some ad' ∧ w.cell? (ad'.add i) = some (O Y (qs.getD i 0)) := by
  intro i hi; obtain ⟨ad', h4, h5⟩ := h2 (i + 1) (by rw [List.length_cons]; omega); injection h4 with h4
  subst h4; refine ⟨_, rfl, ?_⟩; rw [Go.Deep.add_add, Nat.add_comm 1 i]; exact h5
 refine ⟨fun hc => ⟨by omega, fun i hi => by omega⟩, by omega, h3⟩
theorem drop_cons (ps : List Int) (i : Nat) (h : i < ps.length) : ps.drop i = ps.getD i 0 :: ps.drop (i + 1) := by
 rw [List.drop_eq_getElem_cons h, GD, GE h]; rfl
theorem Keeps.cellA {S : List Nat} {W W' : World} (h : Keeps S W W') {p : Addr} {v : Value} (hc : W.cell? p = some v) (hb : p.block ∉ S) : W'.cell? p = some v := by
 have hlt : p.block < W.heap.size := World.block_lt_of_cell? W _ hc; unfold World.cell? at hc ⊢; rw [h.block p.block hlt hb]; exact hc
theorem cellA_ne_map {W : World} {m : Nat} {ws : List W3} {p : Addr} {v : Value} (h : MapIs W m ws) (hc : W.cell? p = some v) : p.block ≠ m := by
 intro e; obtain ⟨es, clock, h1, _⟩ := h; unfold World.cell? at hc; rw [e, h1] at hc; simp at hc
theorem wrapIn {x : Int} (h : -9223372036854775808 ≤ x ∧ x ≤ 9223372036854775807) : wrap64 x = x := by unfold wrap64; omega
def minI (q : Int) : Int := if 1048576 < q then 1048576 else q
def clampI (q : Int) : Int := if 0 < minI q then minI q else 0
theorem clampI_eq (q : Int) : clampI q = clamp q := by unfold clampI minI clamp; split <;> split <;> omega
def RelRel (w : World) (g m : Nat) (pv : Value) (now : Nat) (ps : List Int) (end_ : List W3) (vq vi : Value) (wr : World) : Prop := ∃ (i : Nat) (qs : List Int) (ws : List W3) (A : Option Addr) (c : Nat), i ≤ ps.length ∧ vi = O Y i ∧ vq = .slice A qs.length c ∧ PkAt w A c qs ∧ (qs.length : Int) ≤ 9223372036854775807 ∧ TimAt wr g m pv now ws ∧ Mid ps now i ws ∧ Keeps [m] w wr ∧ rel now i (ps.drop i) qs ws = end_
theorem mid_len {ps : List Int} {now i : Nat} {ws : List W3} (h : Mid ps now i ws) (hn : now ≤ 100000) (hi : i ≤ 8) : ws.length < maxLen := by have := h.len; unfold maxLen; omega
theorem release_any (g m pb pc : Nat) (ps : List Int) (now : Nat) (ws : List W3) (A : Option Addr) (c : Nat) (qs : List Int) (w : World) (h : TimAt w g m (.slice (some ⟨pb, 0, none⟩) ps.length pc) now ws) (hps : PsAt w pb ps) (hok : PsOk ps) (hgood : Good ps now ws) (hn : now ≤ 100000) (hq : PkAt w A c qs) (hql : (qs.length : Int) ≤ 9223372036854775807) :
 Calls Tryz.prog 118 #[.pointer (some ⟨g, 0, none⟩), .slice A qs.length c] w fun e w' => e = .returned (.tuple #[]) ∧ TimAt w' g m (.slice (some ⟨pb, 0, none⟩) ps.length pc) now (rel now 0 ps qs ws) ∧ Keeps [m] w w' := by
 have hc0 := h.c0; have HT := ZZ h; have HP := ZZ hps; have HK := ZZ hok; have HG := ZZ hgood; have HQ := ZZ hq; have HN := ZZ hn; replace hql := ZZ hql; clear h hps hok hgood hq hn; go_enter Tryz.func118, Tryz.ntmps118; go_wp2_with fail; clear hc0; go_loopw [1, 12] (fun vq vi wr => RelRel w g m (.slice (some ⟨pb, 0, none⟩) ps.length pc) now ps (rel now 0 ps qs ws) vq vi wr) (fun _ vi _ => ps.length - (intOf vi).toNat); case atStart => exact ⟨0, qs, ws, A, c, Nat.zero_le _, rfl, rfl, HQ.out, hql.out, HT.out, HG.out.mid, Keeps.refl _ _, rfl⟩
 case round =>
  obtain ⟨i, qs', ws', A', c', hi, rfl, rfl, hpk, hql', hT, hM, hkp, hend⟩ := hrel; by_cases hip : i < ps.length
  · have hi8 : i < 8 := by have := HK.out.le; omega
    have hip' : (i : Int) < (ps.length : Int) := by omega
    have hcell := hkp.cell (HP.out i hip) (by rw [List.mem_singleton]; exact cell_ne_map HT.out.map (HP.out i hip)); have hpm : ps.getD i 0 ∈ ps := by rw [GD, GE hip]; exact List.getElem_mem hip
    obtain ⟨hp1, hp2⟩ := HK.out.each _ hpm; rw [drop_cons ps i hip] at hend; generalize ps.getD i 0 = p at *; have hc1 := hT.c1; have hc2 := hT.c2; have hnow : (now : Int) ≤ 100000 := by have := HN.out; omega
    have hp0 : (p == 0) = false := beq_eq_false_iff_ne.mpr (by omega); have hmod0 := Int.emod_nonneg (now : Int) (b := p) (by omega); replace hmod0 := ZZ hmod0; replace hT := ZZ hT; replace hM := ZZ hM; replace hkp := ZZ hkp; replace hend := ZZ hend; replace hpk := ZZ hpk; clear hpm; by_cases hd : (now : Int) % p = 0
    · have t1 : ((now : Int) % p != 0) = false := by simp [hd]
      have t2 : ((now : Int) % p == 0) = true := by simp [hd]
      replace hd := ZZ hd; cases qs' with
      | nil =>
       rw [List.length_nil] at *; go_wp2_with fail; have hsum : wrap64 (now : Int) = (now : Int) := by rw [wrapIn (by omega)]
       obtain ⟨W1, hst, hM1, hk1⟩ := MapIs.store (W := wr.drew) (m := m) (hT.out.map.move rfl) (mid_len hM.out HN.out (by omega)) i now ((now : Int)) ⟨by omega, by omega⟩ ⟨by omega, by omega⟩ hM.out.new; have hT1 : TimAt W1 g m (.slice (some ⟨pb, 0, none⟩) ps.length pc) now (ins ⟨i, now, (now : Int)⟩ ws') := ⟨(hk1.block g hT.out.lt.1 (by rw [List.mem_singleton]; exact hT.out.ne)).trans hT.out.blk, hM1.perm (ins_perm _ _).symm⟩
       have hkk := Keeps.trans hkp.out ((Keeps.of_below ((BR wr.heap.size wr).drew) [m]).trans hk1); replace hT1 := ZZ hT1; replace hkk := ZZ hkk; clear hM1 hk1; refine st 17 (S := fun w' => w'.cell? ⟨g, 2, none⟩ = some (.map (some m)) ∧ w'.cell? ⟨g, 1, none⟩ = some (O Y now)) (ds := [16]) ⟨hc2, hc1⟩ (fun hHeld => ?_); refine pq 0 ?_; refine pq 1 ?_; refine pq 2 ?_; refine pq 4 ?_; refine pq 5 ?_; refine pq 6 ?_; refine pq 7 ?_; refine tk 3 hHeld ?_; refine tk 8 hHeld ?_; refine pq 9 ?_; refine pq 10 ?_; refine pq 11 ?_; refine pq 12 ?_; refine pq 14 ?_; refine tk 13 hHeld ?_; refine pq 15 ?_; refine rg2 16 (fun K hK => ?_); refine skip_ (w1 := W1) (by rfl) rfl ?_ ?_
       · go_simp; have hst2 : Sem.run Tryz.prog (Instr.mapUpdate 147 (.map (some m)) (.agg #[O Y (i : Int), O Y (now : Int)]) (O Y ((now : Int)))) _ = .ok () W1 := hst; rw [hst2]; rfl
       refine hK.out _ _ ?_; clear hK K; refine dn ?_; clear hst hc1 hc2; replace hsum := ZZ hsum; go_wp2_with fail; go_roundw; case rel => exact ⟨i + 1, [], ins ⟨i, now, (now : Int)⟩ ws', A', c', by omega, by go_num, rfl, hpk.out, by simp, hT1.out, hM.out.ins hip _ ⟨by omega, by omega⟩, hkk.out, by have h5 := hend.out; rw [rel, if_pos hd.out, show (now : Int) + late [] = now by simp [late]] at h5; exact h5⟩
       case measure => simp [intOf]; omega
      | cons q qs2 =>
       have hgt : decide ((0 : Int) < ((q :: qs2).length : Int)) = true := decide_eq_true (by rw [List.length_cons]; omega); obtain ⟨ad, rfl, hq0⟩ := hpk.out.2 0 (by simp); have hq1 := hkp.out.cellA hq0 (by rw [List.mem_singleton]; exact cellA_ne_map HT.out.map hq0); clear hq0; have hq0 : wr.cell? (ad.add 0) = some (O Y q) := hq1; have had : ad.add 0 = ad := by unfold Addr.add; split <;> simp_all
       rw [had] at hq1; replace had := ZZ had; have hlc : qs2.length + 1 ≤ c' := hpk.out.1; replace hql' := ZZ hql'; have h1n : (1 : Int) ≤ (qs2.length : Int) + 1 := by omega
       go_wp2_with fail; by_cases hcc : c' = 1
       · subst hcc; obtain rfl : qs2 = [] := List.eq_nil_of_length_eq_zero (by omega); refine st 9 (S := fun w' => w'.cell? (ad.add 0) = some (O Y q) ∧ w'.cell? ad = some (O Y q)) (ds := []) ⟨hq0, hq1⟩ (fun hHeld => ?_); refine pq 0 ?_; refine pq 1 ?_; refine tk 2 hHeld ?_; refine pq 3 ?_ (v := (O Y (minI q))) (hy := by intro w'; go_simp; rfl); refine pq 4 ?_ (v := (O Y (clampI q))) (hy := by intro w'; go_simp; rfl); refine pq 5 ?_; refine pq 6 ?_; refine pq 7 ?_; refine pq 8 ?_; refine dn ?_; have hLe := clampI_eq q; have hLb := clamp_bd q; rw [← hLe] at hLb; generalize clampI q = L at *; generalize minI q = L0 at *; replace hLe := ZZ hLe; clear hq0 hq1; have hcc2 := ZZ (trivial); replace hgt := ZZ hgt; replace hlc := ZZ hlc; replace h1n := ZZ h1n; replace hLb := ZZ hLb; go_wp2_with fail; replace hLb := hLb.out; have hsum : wrap64 ((now : Int) + L) = (now : Int) + L := by rw [wrapIn (by omega)]
         obtain ⟨W1, hst, hM1, hk1⟩ := MapIs.store (W := wr.drew.drew) (m := m) (hT.out.map.move rfl) (mid_len hM.out HN.out (by omega)) i now ((now : Int) + L) ⟨by omega, by omega⟩ ⟨by omega, by omega⟩ hM.out.new; have hT1 : TimAt W1 g m (.slice (some ⟨pb, 0, none⟩) ps.length pc) now (ins ⟨i, now, (now : Int) + L⟩ ws') := ⟨(hk1.block g hT.out.lt.1 (by rw [List.mem_singleton]; exact hT.out.ne)).trans hT.out.blk, hM1.perm (ins_perm _ _).symm⟩
         have hkk := Keeps.trans hkp.out ((Keeps.of_below ((BR wr.heap.size wr).drew.drew) [m]).trans hk1); replace hT1 := ZZ hT1; replace hkk := ZZ hkk; clear hM1 hk1; refine st 17 (S := fun w' => w'.cell? ⟨g, 2, none⟩ = some (.map (some m)) ∧ w'.cell? ⟨g, 1, none⟩ = some (O Y now)) (ds := [16]) ⟨hc2, hc1⟩ (fun hHeld => ?_); refine pq 0 ?_; refine pq 1 ?_; refine pq 2 ?_; refine pq 4 ?_; refine pq 5 ?_; refine pq 6 ?_; refine pq 7 ?_; refine tk 3 hHeld ?_; refine tk 8 hHeld ?_; refine pq 9 ?_; refine pq 10 ?_; refine pq 11 ?_; refine pq 12 ?_; refine pq 14 ?_; refine tk 13 hHeld ?_; refine pq 15 ?_; refine rg2 16 (fun K hK => ?_); refine skip_ (w1 := W1) (by rfl) rfl ?_ ?_
         · go_simp; have hst2 : Sem.run Tryz.prog (Instr.mapUpdate 147 (.map (some m)) (.agg #[O Y (i : Int), O Y (now : Int)]) (O Y ((now : Int) + L))) _ = .ok () W1 := hst; rw [hst2]; rfl
         refine hK.out _ _ ?_; clear hK K; refine dn ?_; clear hst hc1 hc2; replace hsum := ZZ hsum; go_wp2_with fail; go_roundw; case rel => exact ⟨i + 1, [], ins ⟨i, now, (now : Int) + L⟩ ws', some ad, 0, by omega, by go_num, rfl, hpk.out.tail.1 rfl, by simp, hT1.out, hM.out.ins hip _ ⟨by omega, by omega⟩, hkk.out, by have h5 := hend.out; rw [rel, if_pos hd.out, show late [q] = L from hLe.out.symm] at h5; exact h5⟩
         case measure => simp [intOf]; omega
       · have hcn : 1 < c' := by omega
         refine st 9 (S := fun w' => w'.cell? (ad.add 0) = some (O Y q) ∧ w'.cell? ad = some (O Y q)) (ds := []) ⟨hq0, hq1⟩ (fun hHeld => ?_); refine pq 0 ?_; refine pq 1 ?_; refine tk 2 hHeld ?_; refine pq 3 ?_ (v := (O Y (minI q))) (hy := by intro w'; go_simp; rfl); refine pq 4 ?_ (v := (O Y (clampI q))) (hy := by intro w'; go_simp; rfl); refine pq 5 ?_; refine pq 6 ?_; refine pq 7 ?_; refine pq 8 ?_; refine dn ?_; have hLe := clampI_eq q; have hLb := clamp_bd q; rw [← hLe] at hLb; generalize clampI q = L at *; generalize minI q = L0 at *; replace hLe := ZZ hLe; clear hq0 hq1; have hcc2 := ZZ (trivial); replace hgt := ZZ hgt; replace hlc := ZZ hlc; replace h1n := ZZ h1n; replace hLb := ZZ hLb; go_wp2_with fail; replace hLb := hLb.out; have hsum : wrap64 ((now : Int) + L) = (now : Int) + L := by rw [wrapIn (by omega)]
         obtain ⟨W1, hst, hM1, hk1⟩ := MapIs.store (W := wr.drew.drew) (m := m) (hT.out.map.move rfl) (mid_len hM.out HN.out (by omega)) i now ((now : Int) + L) ⟨by omega, by omega⟩ ⟨by omega, by omega⟩ hM.out.new; have hT1 : TimAt W1 g m (.slice (some ⟨pb, 0, none⟩) ps.length pc) now (ins ⟨i, now, (now : Int) + L⟩ ws') := ⟨(hk1.block g hT.out.lt.1 (by rw [List.mem_singleton]; exact hT.out.ne)).trans hT.out.blk, hM1.perm (ins_perm _ _).symm⟩
         have hkk := Keeps.trans hkp.out ((Keeps.of_below ((BR wr.heap.size wr).drew.drew) [m]).trans hk1); replace hT1 := ZZ hT1; replace hkk := ZZ hkk; clear hM1 hk1; refine st 17 (S := fun w' => w'.cell? ⟨g, 2, none⟩ = some (.map (some m)) ∧ w'.cell? ⟨g, 1, none⟩ = some (O Y now)) (ds := [16]) ⟨hc2, hc1⟩ (fun hHeld => ?_); refine pq 0 ?_; refine pq 1 ?_; refine pq 2 ?_; refine pq 4 ?_; refine pq 5 ?_; refine pq 6 ?_; refine pq 7 ?_; refine tk 3 hHeld ?_; refine tk 8 hHeld ?_; refine pq 9 ?_; refine pq 10 ?_; refine pq 11 ?_; refine pq 12 ?_; refine pq 14 ?_; refine tk 13 hHeld ?_; refine pq 15 ?_; refine rg2 16 (fun K hK => ?_); refine skip_ (w1 := W1) (by rfl) rfl ?_ ?_
         · go_simp; have hst2 : Sem.run Tryz.prog (Instr.mapUpdate 147 (.map (some m)) (.agg #[O Y (i : Int), O Y (now : Int)]) (O Y ((now : Int) + L))) _ = .ok () W1 := hst; rw [hst2]; rfl
         refine hK.out _ _ ?_; clear hK K; refine dn ?_; clear hst hc1 hc2; replace hsum := ZZ hsum; go_wp2_with fail; go_roundw; case rel => exact ⟨i + 1, qs2, ins ⟨i, now, (now : Int) + L⟩ ws', some ⟨ad.block, ad.off + 1, none⟩, c' - 1, by omega, by go_num, rfl, (by have h6 := hpk.out.tail.2; rw [show ad.add 1 = ⟨ad.block, ad.off + 1, none⟩ by unfold Addr.add; simp] at h6; exact h6), by have := hql'.out; rw [List.length_cons] at this; omega, hT1.out, hM.out.ins hip _ ⟨by omega, by omega⟩, hkk.out, by have h5 := hend.out; rw [rel, if_pos hd.out, show late (q :: qs2) = L from hLe.out.symm] at h5; exact h5⟩
         case measure => simp [intOf]; omega
    · have t1 : ((now : Int) % p != 0) = true := by simp [hd]
      have t2 : ((now : Int) % p == 0) = false := by simp [hd]
      replace hd := ZZ hd; go_wp2_with fail; go_roundw; case rel => exact ⟨i + 1, qs', ws', A', c', by omega, by go_num, rfl, hpk.out, hql', hT.out, hM.out.skip, hkp.out, by have h5 := hend.out; rw [rel, if_neg hd.out] at h5; exact h5⟩
      case measure => simp [intOf]; omega
  · have e0 : ¬ ((i : Int) < (ps.length : Int)) := by omega
    obtain rfl : i = ps.length := by omega
    rw [List.drop_length, rel] at hend; replace hT := ZZ hT; replace hkp := ZZ hkp; replace hend := ZZ hend; clear hM hpk; go_wp2_with fail; go_end0; exact ⟨rfl, by rw [← hend.out]; exact hT.out, hkp.out⟩
end
section
attribute [local go_sem] max2_int min2_int max_two min_two
def z3 : W3 := ⟨0, 0, 0⟩
theorem take_snoc3 (l : List W3) (k : Nat) (h : k < l.length) : l.take (k + 1) = l.take k ++ [l.getD k z3] := by
 rw [GD, GE h]; exact List.take_succ_eq_append_getElem h
theorem drop_cons3 (l : List W3) (k : Nat) (h : k < l.length) : l.drop k = l.getD k z3 :: l.drop (k + 1) := by
 rw [List.drop_eq_getElem_cons h, GD, GE h]; rfl
theorem told_snoc (now : Int) (l : List W3) (x : W3) : told now (l ++ [x]) = told now l ++ (if x.a ≤ now then [x] else []) := by
 unfold told; rw [List.filter_append, List.filter_cons]; by_cases h : x.a ≤ now <;> simp [h]
theorem left_snoc (now : Int) (l : List W3) (x : W3) : left now (l ++ [x]) = left now l ++ (if x.a ≤ now then [] else [x]) := by
 unfold left; rw [List.filter_append, List.filter_cons]; by_cases h : x.a ≤ now <;> simp [h]
structure TkS (w : World) (B : Nat) (W : World) (g m : Nat) (pv : Value) (now : Nat) (ws : List W3) (vo : Value) (l : List S48) (vk : Value) (K : List S48) : Prop where
 tim : TimAt W g m pv now ws
 out : RowIs W B vo l
 key : RowIs W 0 vk K
 kps : Keeps [g, m] w W
 kb : ∀ k, vk.ownBlock = some k → k < B
 low : w.heap.size ≤ B ∧ B ≤ W.heap.size
 gl : g < w.heap.size ∧ m < w.heap.size
section
variable {w W W1 W2 : World} {B g m : Nat} {pv vo vk v1 : Value} {now : Nat} {ws ws' : List W3} {l K : List S48}
theorem TkS.step (h : TkS w B W g m pv now ws vo l vk K) (hb : Below W.heap.size W W1) : TkS w B W1 g m pv now ws vo l vk K :=
 ⟨h.tim.step hb, RowIs.step h.out hb, RowIs.step h.key hb, h.kps.trans (Keeps.of_below hb _), h.kb, ⟨h.low.1, Nat.le_trans h.low.2 hb.size⟩, h.gl⟩
theorem TkS.app (h : TkS w B W g m pv now ws vo l vk K) (hb : Below W.heap.size W W1) (hg : W1.grownBy W2 vo.ownBlock) (d : S48) (hr : LRow W2 B 114 2 v1 (l.length + 1) (l.flatMap enc2 ++ enc2 d)) : TkS w B W2 g m pv now ws v1 (l ++ [d]) vk K := by
 have hbs := hb.size; have hl2 := h.low; have hgl := h.gl; have hgs := hg.size; have h1 : ∀ k, k < W.heap.size → (∀ q, vo.ownBlock = some q → k ≠ q) → W2.heap[k]? = W.heap[k]? := fun k hk hn => (hg.block k (by omega) (fun e => hn k e.symm rfl)).trans (hb.block k hk); have hlo : ∀ q, vo.ownBlock = some q → B ≤ q := fun q hq => (LRow.lt h.out q hq).2.1; refine ⟨h.tim.move (h1 g h.tim.lt.1 (fun q hq e => by have := hlo q hq; omega)) (h1 m h.tim.lt.2 (fun q hq e => by have := hlo q hq; omega)), ?_, LRow.move h.key (fun k hk => h1 k (LRow.lt h.key k hk).1 (fun q hq e => by have := hlo q hq; have := h.kb k hk; omega)), ?_, h.kb, ⟨h.low.1, by omega⟩, h.gl⟩
 · unfold RowIs; rw [List.length_append, flat_append]; simpa using hr
 · exact h.kps.trans' ((Keeps.of_below hb (ownL vo)).trans (Keeps.of_grown hg (ownL vo) (fun k hk => .inl (mem_ownL.2 hk)))) (fun k hk => .inr (by have := hlo k (mem_ownL.1 hk); omega))
theorem TkS.drop (h : TkS w B W g m pv now ws vo l vk K) (hk : Keeps [m] W W1) (hM : MapIs W1 m ws') : TkS w B W1 g m pv now ws' vo l vk K := by
 have far : ∀ {v : Value} {n : Nat} {xs : List Value} {B' : Nat}, LRow W B' 114 2 v n xs → LRow W1 B' 114 2 v n xs := fun hr => hr.move (fun k hk2 => hk.block k (LRow.lt hr k hk2).1 (by
  rw [List.mem_singleton]; rintro rfl; obtain ⟨_, _, cur, hc⟩ := LRow.lt hr _ hk2; obtain ⟨es, clock, h1, _⟩ := h.tim.map; rw [h1] at hc; cases hc))
 exact ⟨⟨(hk.block g h.tim.lt.1 (by rw [List.mem_singleton]; exact h.tim.ne)).trans h.tim.blk, hM⟩, far h.out, far h.key, h.kps.trans (hk.mono (by simp)), h.kb, ⟨h.low.1, Nat.le_trans h.low.2 hk.size⟩, h.gl⟩
end
def TickPost (w : World) (g m : Nat) (pv : Value) (now : Nat) (R : List W3) (e : Ending) (w' : World) : Prop := ∃ v, e = .returned v ∧ RowIs w' w.heap.size v ((told now R).map W3.due) ∧ TimAt w' g m pv (now + 1) (left now R) ∧ Keeps [g, m] w w'
def TickRel (w : World) (B g m : Nat) (pv : Value) (now : Nat) (R : List W3) (vk : Value) (vo vi : Value) (wr : World) : Prop := ∃ k : Nat, k ≤ R.length ∧ vi = O Y k ∧ TkS w B wr g m pv now (left now (R.take k) ++ R.drop k) vo ((told now (R.take k)).map W3.due) vk (R.map W3.due)
theorem tick_any (g m pb pc : Nat) (ps : List Int) (now : Nat) (ws : List W3) (A : Option Addr) (c : Nat) (qs : List Int) (w : World) (h : TimAt w g m (.slice (some ⟨pb, 0, none⟩) ps.length pc) now ws) (hps : PsAt w pb ps) (hok : PsOk ps) (hgood : Good ps now ws) (hn : now ≤ 10000) (hq : PkAt w A c qs) (hql : (qs.length : Int) ≤ 9223372036854775807) :
 Calls Tryz.prog 76 #[.pointer (some ⟨g, 0, none⟩), .slice A qs.length c] w (TickPost w g m (.slice (some ⟨pb, 0, none⟩) ps.length pc) now (rel now 0 ps qs ws)) := by
 have hc2 := h.c2; have hgl := ZZ h.lt; have HM := rel_mid ps now hok.le ps qs 0 ws (by omega) hgood.mid; rw [show ((0 : Nat) : Int) = 0 from rfl] at HM; have HC := ZZ (release_any g m pb pc ps now ws A c qs w h hps hok hgood (by omega) hq hql); have hp8 := hok.le; have HN := ZZ hn; clear h hps hok hgood hn hq; replace hql := ZZ hql; generalize hR : rel now 0 ps qs ws = R at *; replace hR := ZZ hR; have hRl : R.length ≤ 100000 := by have := HM.len; have := HN.out; omega
 generalize hpv : (Value.slice (some ⟨pb, 0, none⟩) ps.length pc) = pv at *; replace hpv := ZZ hpv; replace HM := ZZ HM; go_enter Tryz.func76, Tryz.ntmps76; go_wp2_with fail; refine (there_is _ g m hc2).mono ?_; rintro e w1 ⟨rfl, rfl⟩; clear hc2; go_wp2_with fail; refine HC.out.mono ?_; rintro e w1 ⟨rfl, hT1, hk1⟩; have hW := ZZ (wait_any g m pv now R w1 hT1 HM.out.sorted hRl); replace hT1 := ZZ hT1; replace hk1 := ZZ hk1; clear HC; go_wp2_with fail; refine hW.out.mono ?_; rintro e w2 ⟨vk, rfl, hrow, hb2⟩; obtain ⟨AK, cK, rfl, _⟩ := LRow.slice hrow; have hS0 : TkS w w2.heap.size w2 g m pv now R (.slice none 0 0) [] (.slice AK (R.map W3.due).length cK) (R.map W3.due) :=
  ⟨hT1.out.step hb2, RowIs.nil _ _, LRow.low hrow (Nat.zero_le _), (hk1.out.mono (by simp)).trans (Keeps.of_below hb2 _), fun k hk => (LRow.lt hrow k hk).1, ⟨Nat.le_trans hk1.out.size hb2.size, NR _⟩, hgl.out⟩
 replace hS0 := ZZ hS0; clear hrow hb2 hW hT1 hk1; generalize hB : w2.heap.size = B at *; clear hB; go_wp2_with fail; rw [List.length_map] at *; go_loopw [5, 17] (fun vo vi wr => TickRel w B g m pv now R (.slice AK R.length cK) vo vi wr) (fun _ vi _ => R.length - (intOf vi).toNat); case atStart => exact ⟨0, Nat.zero_le _, rfl, by simpa [told, left] using hS0.out⟩
 case round =>
  obtain ⟨k, hk, rfl, hS⟩ := hrel; replace hS := ZZ hS; obtain ⟨AO, cO, rfl, _⟩ := LRow.slice hS.out.out; by_cases hlk : k < R.length
  · have hlk' : (k : Int) < (R.length : Int) := by omega
    have hkb : k < 100000 := by omega
    have hkey : LRow wr 0 114 2 (.slice AK R.length cK) R.length ((R.map W3.due).flatMap enc2) := by have h9 := hS.out.key; unfold RowIs at h9; rwa [List.length_map] at h9
    obtain ⟨bk, rfl⟩ : ∃ bk, AK = some ⟨bk, 0, none⟩ := by
     rcases hkey.2 with ⟨_, h3⟩ | ⟨bk, cap, cur, h3, _⟩
     · omega
     · injection h3 with h3
       exact ⟨bk, h3⟩
    obtain ⟨c0, c1⟩ := cells_at hkey (List.length_map _) k (R.getD k z3).due (by rw [List.getElem?_map, GD, GE hlk]; rfl); clear hkey; have htk := told_snoc now (R.take k) (R.getD k z3); have hlf := left_snoc now (R.take k) (R.getD k z3); rw [← take_snoc3 R k hlk] at htk hlf; rw [drop_cons3 R k hlk] at hS; generalize R.getD k z3 = x at *; obtain ⟨xt, xn, xa⟩ := x; have hS1 := ZZ (hS.out.step ((BR _ _).alloc (NR _) (.cells #[O Y xt, O Y xn] 114))); have hlook := ZZ ((hS1.out.step (BR _ _).drew).tim.map.look ⟨xt, xn, xa⟩ (by simp)); have f1 := hS1.out.tim.c1; have f2 := hS1.out.tim.c2; have hbx := heap_alloc_new wr (.cells #[O Y xt, O Y xn] 114); have x0 : _ = some (O Y xt) := (blk_cell hbx 0).trans rfl; have x1 : _ = some (O Y xn) := (blk_cell hbx 1).trans rfl; replace hbx := ZZ hbx; dsimp only at htk hlf c0 c1; replace c0 : wr.cell? ⟨bk, k * 2, none⟩ = some (O Y xt) := c0; replace c1 : wr.cell? ⟨bk, k * 2 + 1, none⟩ = some (O Y xn) := c1; replace htk := ZZ htk; replace hlf := ZZ hlf; have hll : (told now (R.take k)).length ≤ 100000 := by
     have h1 : (told now (R.take k)).length ≤ (R.take k).length := List.length_filter_le _ _; rw [List.length_take] at h1; omega
    have hLl : ((told now (R.take k)).map W3.due).length ≤ 100000 := by rw [List.length_map]; exact hll
    generalize hL : (told now (R.take k)).map W3.due = l at *; replace hL := ZZ hL; clear hll; by_cases ha : xa ≤ (now : Int)
    · have ta : decide (xa ≤ (now : Int)) = true := decide_eq_true ha; replace ha := ZZ ha; go_wp2_with fail; refine st 11 (S := fun w' => (w'.cell? ⟨g, 2, none⟩ = some (.map (some m)) ∧ w'.cell? ⟨g, 1, none⟩ = some (O Y now)) ∧ (w'.cell? ⟨wr.heap.size, 0, none⟩ = some (O Y xt) ∧ w'.cell? ⟨wr.heap.size, 1, none⟩ = some (O Y xn)) ∧ Sem.run Tryz.prog (Instr.lookup 147 (.map (some m)) (.agg #[O Y xt, O Y xn]) false) w' = .ok (O Y xa) w') (ds := []) ⟨⟨f2, f1⟩, ⟨x0, x1⟩, hlook.out⟩ (fun hHeld => ?_); refine pq 0 ?_; refine pq 1 ?_; refine pq 2 ?_; refine pq 6 ?_; refine pq 7 ?_; refine pq 8 ?_; refine tk 3 hHeld ?_ (hy := by rintro w' ⟨⟨s0, s1⟩, ⟨s2, s3⟩, s4⟩; go_simp; first | with_reducible rfl | rfl); refine tk 4 hHeld ?_ (hy := by rintro w' ⟨⟨s0, s1⟩, ⟨s2, s3⟩, s4⟩; go_simp; first | with_reducible rfl | rfl); refine tk 9 hHeld ?_ (hy := by rintro w' ⟨⟨s0, s1⟩, ⟨s2, s3⟩, s4⟩; go_simp; first | with_reducible rfl | rfl); refine tk 5 hHeld ?_ (hy := by rintro w' ⟨⟨s0, s1⟩, ⟨s2, s3⟩, s4⟩; go_simp; first | with_reducible rfl | rfl); refine pq 10 ?_; refine dn ?_; clear hlook; go_wp2_with (first | (at_builtin; refine wpList_append_loose _ B rfl (.tmp 32) (.tmp 34) 167 114 _ 2 16 rfl Tryz.underlying167 info48 rfl (by decide) (by decide) (.slice AO l.length cO) l.length (l.flatMap enc2) (enc2 ⟨xt, xn⟩) (some ⟨_, 0, none⟩) 1 1 rfl rfl rfl (fun u hu => flat_one [⟨xt, xn⟩] u (by simpa using hu)) ?row ?src ?low ?len ?go) | fail)
      case row => exact RowIs.step hS1.out.out (((BR _ _).alloc (by simp) _).drew)
      case src => exact .inr ⟨_, rfl, by have h := World.news_of_block (cs := #[O Y xt, O Y xn]) (t := 114) (fr := (0, 0)) (heap_alloc_new (wr.alloc (.cells #[O Y xt, O Y xn] 114)) (.cells #[O Y xt, O Y xn] 114)); simpa [enc2] using h⟩
      case low => have := hS1.out.low.2; simp at this ⊢; omega
      case len => omega
      case go =>
       intro v1 w3 hrow3 hg hr1; have hbl := (((BR wr.heap.size wr).alloc (NR _) (.cells #[O Y xt, O Y xn] 114)).alloc (by simp) (.cells #[O Y xt, O Y xn] 114)).drew; have hS3 := ZZ (hS.out.app hbl hg ⟨xt, xn⟩ hrow3); have hbx3 : w3.heap[wr.heap.size]? = some (.cells #[O Y xt, O Y xn] 114 (0, 0)) := (hg.block wr.heap.size (by simp; omega) (fun e => by have := (LRow.lt hS.out.out wr.heap.size e.symm).1; omega)).trans ((Below.heap_alloc _ _ wr.heap.size (by simp)).trans hbx.out); clear f1 f2 x0 x1 c0 c1; have f1 := hS3.out.tim.c1; have f2 := hS3.out.tim.c2; have x0 : _ = some (O Y xt) := (blk_cell hbx3 0).trans rfl; have x1 : _ = some (O Y xn) := (blk_cell hbx3 1).trans rfl; obtain ⟨A2, c2, rfl, _⟩ := LRow.slice hrow3; obtain ⟨w4, hdel, hM4, hk4⟩ := MapIs.drop (W := w3.drew) (m := m) (ty := 0) ⟨xt, xn, xa⟩ ((hS3.out.step (BR _ _).drew).tim.map.perm List.perm_middle); have hS4 := ZZ ((hS3.out.step (BR _ _).drew).drop hk4 hM4); replace hbx3 := ZZ hbx3; replace hdel := ZZ hdel; clear hrow3 hg hr1 hbl hM4 hk4; go_wp2_with fail; replace hdel := hdel.out; refine st 6 (S := fun w' => w'.cell? ⟨g, 2, none⟩ = some (.map (some m)) ∧ w'.cell? ⟨wr.heap.size, 0, none⟩ = some (O Y xt) ∧ w'.cell? ⟨wr.heap.size, 1, none⟩ = some (O Y xn)) (ds := [5]) ⟨f2, x0, x1⟩ (fun hHeld => ?_); refine pq 0 ?_; refine pq 1 ?_; refine pq 2 ?_; refine tk 3 hHeld ?_; refine tk 4 hHeld ?_; refine rg2 5 (fun K hK => ?_); refine value_ (w1 := w4) (v := .tuple #[]) (by rfl) rfl ?_ ?_
       · go_simp; have hdel2 : Sem.run Tryz.prog (Builtin.delete_ #[147, 114] _ #[.map (some m), .agg #[O Y xt, O Y xn]]) _ = .ok (.tuple #[]) w4 := hdel; rw [hdel2]; rfl
       refine hK.out _ _ ?_; clear hK K; refine dn ?_; clear hdel f1 f2 x0 x1; go_wp2_with fail; go_roundw; case rel => exact ⟨k + 1, by omega, by go_num, by rw [htk.out, hlf.out, if_pos (by have := ha.out; omega), if_pos (by have := ha.out; omega), List.map_append, hL.out, List.append_nil]; exact hS4.out⟩
       case measure => simp [intOf]; omega
    · have ta : decide (xa ≤ (now : Int)) = false := decide_eq_false ha; replace ha := ZZ ha; go_wp2_with fail; refine st 11 (S := fun w' => (w'.cell? ⟨g, 2, none⟩ = some (.map (some m)) ∧ w'.cell? ⟨g, 1, none⟩ = some (O Y now)) ∧ (w'.cell? ⟨wr.heap.size, 0, none⟩ = some (O Y xt) ∧ w'.cell? ⟨wr.heap.size, 1, none⟩ = some (O Y xn)) ∧ Sem.run Tryz.prog (Instr.lookup 147 (.map (some m)) (.agg #[O Y xt, O Y xn]) false) w' = .ok (O Y xa) w') (ds := []) ⟨⟨f2, f1⟩, ⟨x0, x1⟩, hlook.out⟩ (fun hHeld => ?_); refine pq 0 ?_; refine pq 1 ?_; refine pq 2 ?_; refine pq 6 ?_; refine pq 7 ?_; refine pq 8 ?_; refine tk 3 hHeld ?_ (hy := by rintro w' ⟨⟨s0, s1⟩, ⟨s2, s3⟩, s4⟩; go_simp; first | with_reducible rfl | rfl); refine tk 4 hHeld ?_ (hy := by rintro w' ⟨⟨s0, s1⟩, ⟨s2, s3⟩, s4⟩; go_simp; first | with_reducible rfl | rfl); refine tk 9 hHeld ?_ (hy := by rintro w' ⟨⟨s0, s1⟩, ⟨s2, s3⟩, s4⟩; go_simp; first | with_reducible rfl | rfl); refine tk 5 hHeld ?_ (hy := by rintro w' ⟨⟨s0, s1⟩, ⟨s2, s3⟩, s4⟩; go_simp; first | with_reducible rfl | rfl); refine pq 10 ?_; refine dn ?_; clear hlook; have hS2 := ZZ (hS1.out.step (BR _ _).drew); clear f1 f2 x0 x1 c0 c1; go_wp2_with fail; go_roundw; case rel => exact ⟨k + 1, by omega, by go_num, by rw [htk.out, hlf.out, if_neg (by have := ha.out; omega), if_neg (by have := ha.out; omega), List.map_append, hL.out, List.append_assoc]; simpa using hS2.out⟩
      case measure => simp [intOf]; omega
  · have e0 : ¬ ((k : Int) < (R.length : Int)) := by omega
    obtain rfl : k = R.length := by omega
    rw [List.take_length, List.drop_length, List.append_nil] at hS; rw [List.take_length]; generalize hL : (told now R).map W3.due = l at *; replace hL := ZZ hL; have f1 := hS.out.tim.c1; have ff := hS.out.tim.fr 1; have hne := hS.out.tim.ne; have hnow : (now : Int) ≤ 10000 := by have := HN.out; omega
    have hgo : ∀ q, (Value.slice AO l.length cO).ownBlock = some q → q ≠ g := fun q hq e => by
     have h1 := (LRow.lt hS.out.out q hq).2.1; have h2 := hS.out.low.1; have h3 := hgl.out.1; omega
    have hfin : RowIs (wr.setCell ⟨g, 1, none⟩ (O Y ((now : Int) + 1))) w.heap.size (.slice AO l.length cO) l ∧ TimAt (wr.setCell ⟨g, 1, none⟩ (O Y ((now : Int) + 1))) g m pv (now + 1) (left now R) ∧ Keeps [g, m] w (wr.setCell ⟨g, 1, none⟩ (O Y ((now : Int) + 1))) :=
     ⟨LRow.low (LRow.move hS.out.out (fun q hq => BH wr ⟨g, 1, none⟩ _ q (hgo q hq))) hS.out.low.1, ⟨(blk_set hS.out.tim.blk 1 _).trans rfl, hS.out.tim.map.move (BH wr ⟨g, 1, none⟩ _ m (Ne.symm hne))⟩, hS.out.kps.setCell g 1 _ (.inl (by simp))⟩
    replace hfin := ZZ hfin; replace hne := ZZ hne; replace hgo := ZZ hgo; go_wp2_with fail; go_ret; exact ⟨_, rfl, by rw [hL.out]; exact hfin.out.1, hfin.out.2.1, hfin.out.2.2⟩
end
section
attribute [local go_sem] max2_int min2_int max_two min_two
theorem psok_iff (ps : List Int) : PsOk ps ↔ (0 < ps.length ∧ ps.length ≤ 8 ∧ ∀ k, k < ps.length → 1 ≤ ps.getD k 0 ∧ ps.getD k 0 ≤ 1048576) := by
 constructor
 · rintro ⟨h1, h2, h3⟩; exact ⟨h1, h2, fun k hk => h3 _ (by rw [GD, GE hk]; exact List.getElem_mem hk)⟩
 · rintro ⟨h1, h2, h3⟩; refine ⟨h1, h2, fun p hp => ?_⟩; obtain ⟨k, hk, rfl⟩ := List.getElem_of_mem hp; have := h3 k hk; rwa [GD, GE hk] at this
def NewOk (w : World) (ps : List Int) (e : Ending) (w' : World) : Prop := ∃ g m pb pc, e = .returned (.tuple #[.pointer (some ⟨g, 0, none⟩), O Y 0]) ∧ TimAt w' g m (.slice (some ⟨pb, 0, none⟩) ps.length pc) 0 [] ∧ LRow w' w.heap.size 3 1 (.slice (some ⟨pb, 0, none⟩) ps.length pc) ps.length (ps.map (O Y)) ∧ Below w.heap.size w w' ∧ w.heap.size ≤ g ∧ w.heap.size ≤ m ∧ pb ≠ g ∧ pb ≠ m
def NewPost (w : World) (ps : List Int) (e : Ending) (w' : World) : Prop := (PsOk ps ∧ NewOk w ps e w') ∨ (¬ PsOk ps ∧ e = .returned (.tuple #[.pointer none, O Y 1]) ∧ w = w')
def NewRel (ps : List Int) (vi : Value) : Prop := ∃ k : Nat, k ≤ ps.length ∧ vi = O Y k ∧ ∀ j, j < k → 1 ≤ ps.getD j 0 ∧ ps.getD j 0 ≤ 1048576
theorem oneInts (ps : List Int) : ∀ u ∈ ps.map (O Y), u.oneCell' = true := by
 intro u hu; obtain ⟨x, _, rfl⟩ := List.mem_map.1 hu; rfl
theorem new_any (ps : List Int) (A : Option Addr) (c : Nat) (w : World) (hq : PkAt w A c ps) : Calls Tryz.prog 27 #[.slice A ps.length c] w (NewPost w ps) := by
 have HQ := ZZ hq; clear hq; have hmm := @run_makeMap Tryz.prog; by_cases h0 : ps.length = 0
 · have hbad : ¬ PsOk ps := fun h => by have := h.pos; omega
   have t0 : ((ps.length : Int) == 0) = true := by simp [h0]
   replace hbad := ZZ hbad; replace h0 := ZZ h0; replace hmm := ZZ hmm; go_enter Tryz.func27, Tryz.ntmps27; go_wp2_with fail; go_ret2; exact .inr ⟨hbad.out, rfl, rfl⟩
 · have t0 : ((ps.length : Int) == 0) = false := by simpa using h0
   by_cases h8 : 8 < ps.length
   · have hbad : ¬ PsOk ps := fun h => by have := h.le; omega
     have t1 : decide ((8 : Int) < (ps.length : Int)) = true := decide_eq_true (by omega); replace hbad := ZZ hbad; replace hmm := ZZ hmm; clear h0 h8; go_enter Tryz.func27, Tryz.ntmps27; go_wp2_with fail; go_ret2; exact .inr ⟨hbad.out, rfl, rfl⟩
   · have t1 : decide ((8 : Int) < (ps.length : Int)) = false := decide_eq_false (by omega); have hl : 0 < ps.length ∧ ps.length ≤ 8 := ⟨by omega, by omega⟩
     replace hl := ZZ hl; replace hmm := ZZ hmm; clear h0 h8; go_enter Tryz.func27, Tryz.ntmps27; go_wp2_with fail; go_loop [16] (fun vi => NewRel ps vi) (fun vi => ps.length - (intOf vi).toNat); case atStart => exact ⟨0, Nat.zero_le _, rfl, fun j hj => by omega⟩
     case round =>
      obtain ⟨k, hk, rfl, hall⟩ := hrel; by_cases hkn : k < ps.length
      · obtain ⟨ad, rfl, hcell⟩ := HQ.out.2 k hkn; have hkn' : (k : Int) < (ps.length : Int) := by omega
        have hk8 : k < 8 := by have := hl.out.2; omega
        have hbadk : ¬ (1 ≤ ps.getD k 0 ∧ ps.getD k 0 ≤ 1048576) → ¬ PsOk ps := fun h h2 => h (((psok_iff ps).1 h2).2.2 k hkn); have hnext : (1 ≤ ps.getD k 0 ∧ ps.getD k 0 ≤ 1048576) → ∀ j, j < k + 1 → 1 ≤ ps.getD j 0 ∧ ps.getD j 0 ≤ 1048576 := fun h j hj => by
         rcases Nat.lt_succ_iff_lt_or_eq.1 hj with h3 | h3
         · exact hall j h3
         · rw [h3]; exact h
        generalize ps.getD k 0 = p at *; replace hall := ZZ hall; by_cases hp1 : p < 1
        · have d1 : decide (p < 1) = true := decide_eq_true hp1; have hbad := ZZ (hbadk (by omega)); clear hbadk hnext hp1; go_wp2_with fail; go_ret2; exact .inr ⟨hbad.out, rfl, rfl⟩
        · have d1 : decide (p < 1) = false := decide_eq_false hp1; by_cases hp2 : 1048576 < p
          · have d2 : decide (1048576 < p) = true := decide_eq_true hp2; have hbad := ZZ (hbadk (by omega)); clear hbadk hnext hp1 hp2; go_wp2_with fail; go_ret2; exact .inr ⟨hbad.out, rfl, rfl⟩
          · have d2 : decide (1048576 < p) = false := decide_eq_false hp2; have hn := ZZ (hnext (by omega)); clear hbadk hnext hp1 hp2; go_wp2_with fail; go_round; case rel => exact ⟨k + 1, by omega, by go_num, hn.out⟩
            case measure => simp [intOf]; omega
      · have e0 : ¬ ((k : Int) < (ps.length : Int)) := by omega
        obtain rfl : k = ps.length := by omega
        have hok : PsOk ps := (psok_iff ps).2 ⟨hl.out.1, hl.out.2, hall⟩; replace hok := ZZ hok; obtain ⟨ad, rfl, _⟩ := HQ.out.2 0 hl.out.1; clear hall; replace hmm := hmm.out; go_wp2_with (first | (at_builtin; refine wpList_append_loose _ w.heap.size rfl (.const (.slice none 0 0)) (.tmp 27) 22 3 _ 1 8 rfl Tryz.underlying22 info3 rfl (by decide) (by decide) (.slice none 0 0) 0 [] (ps.map (O Y)) (some ad) ps.length c rfl rfl (by simp) (oneInts ps) ⟨rfl, .inl ⟨rfl, rfl⟩⟩ ?src (NR _) ?len ?go) | fail)
        case src =>
         intro j x hx; have hjl := (GI.1 hx).1; obtain ⟨ad', h1, h2⟩ := HQ.out.2 j hjl; injection h1 with h1
         subst h1; rw [GD, hx] at h2; exact h2
        case len => have := hl.out.2; omega
        case go =>
         intro v1 w1 hrow hg hat
         try rw [Nat.zero_add, List.nil_append] at hrow
         have hb1 : Below w.heap.size w w1 := (BR _ _).grown hg (NR _) (fun k hk => by simp [Value.ownBlock] at hk); obtain ⟨n1, hn1⟩ : ∃ n1, ps.length = n1 + 1 := ⟨ps.length - 1, by have := hl.out.1; omega⟩
         obtain ⟨pb, pc, rfl, hpb⟩ : ∃ pb pc, v1 = .slice (some ⟨pb, 0, none⟩) ps.length pc ∧ w.heap.size ≤ pb := by
          rw [hn1] at hrow ⊢; obtain ⟨g1, c1, h1, h2, _⟩ := row_some hrow; exact ⟨g1, c1, h1, h2⟩
         have hpl := (LRow.lt hrow pb rfl).1; have hfin : TimAt ((w1.alloc (.map #[] 0)).alloc (.cells #[.slice (some ⟨pb, 0, none⟩) ps.length pc, O Y 0, .map (some w1.heap.size)] 149)) (w1.heap.size + 1) w1.heap.size (.slice (some ⟨pb, 0, none⟩) ps.length pc) 0 [] :=
          ⟨by have := heap_alloc_new (w1.alloc (.map #[] 0)) (.cells #[.slice (some ⟨pb, 0, none⟩) ps.length pc, O Y 0, .map (some w1.heap.size)] 149); simpa using this, (MapIs.made w1).move (Below.heap_alloc _ _ _ (by simp))⟩
         have hrow2 := LRow.step hrow (((BR _ _).alloc (NR _) (.map #[] 0)).alloc (by simp) (.cells #[.slice (some ⟨pb, 0, none⟩) ps.length pc, O Y 0, .map (some w1.heap.size)] 149)); have hb2 := (hb1.alloc hb1.size (.map #[] 0)).alloc (by have := hb1.size; simp; omega) (.cells #[.slice (some ⟨pb, 0, none⟩) ps.length pc, O Y 0, .map (some w1.heap.size)] 149); have hsz := hb1.size; replace hrow := ZZ hrow; replace hb1 := ZZ hb1; replace hb2 := ZZ hb2; replace hfin := ZZ hfin; replace hrow2 := ZZ hrow2; replace hn1 := ZZ hn1; replace hsz := ZZ hsz; replace hpl := ZZ hpl; clear hg hat
         go_wp2_with fail; go_ret2; exact .inl ⟨hok.out, _, _, pb, pc, rfl, hfin.out, hrow2.out, hb2.out, by have := hsz.out; omega, hsz.out, by have := hpl.out; omega, by have := hpl.out; omega⟩
end
end Go.Proofs.YtoopeamoejmjeaaGreat.Tm
namespace Go.Proofs.YtoopeamoejmjeaaGreat.Rd
open RowKit YtoopeamoejmjeaaGreatW.PrintWords YtoopeamoejmjeaaGreatW.PrintLast YtoopeamoejmjeaaGreatW.PrintMore Tp
structure S30 where
 f0 : Int
 f1 : Int
 f2 : Int
def z30 : S30 := ⟨0, 0, 0⟩
def enc3 (j : S30) : List Value := [O Y j.f0, O Y j.f1, O Y j.f2]
theorem enc3_len (j : S30) : (enc3 j).length = 3 := rfl
theorem flat_len (l : List S30) : (l.flatMap enc3).length = l.length * 3 := by
 induction l with
 | nil => rfl
 | cons x l ih => rw [List.flatMap_cons, List.length_append, ih, enc3_len, List.length_cons]; omega
theorem flat_get (l : List S30) : ∀ (j i : Nat), i < 3 → (l.flatMap enc3)[j * 3 + i]? = (l[j]?).bind fun x => (enc3 x)[i]? := by
 induction l with
 | nil => intro j i _; simp
 | cons x l ih =>
  intro j i hi; rw [List.flatMap_cons]; cases j with
  | zero =>
   rw [Nat.zero_mul, Nat.zero_add, List.getElem?_append_left (by rw [enc3_len]; exact hi)]; rfl
  | succ j =>
   rw [List.getElem?_append_right (by rw [enc3_len]; omega), enc3_len, show (j + 1) * 3 + i - 3 = j * 3 + i by omega, ih j i hi]; rfl
theorem flat_one (l : List S30) : ∀ u ∈ l.flatMap enc3, u.oneCell' = true := by
 intro u hu; obtain ⟨x, _, hx⟩ := List.mem_flatMap.1 hu; simp only [enc3, List.mem_cons, List.not_mem_nil, or_false] at hx; rcases hx with rfl | rfl | rfl <;> rfl
theorem flat_append (l m : List S30) : (l ++ m).flatMap enc3 = l.flatMap enc3 ++ m.flatMap enc3 := List.flatMap_append
structure Only (g : Nat) (row : Option Nat) (w w' : World) : Prop where
 os : w'.os = w.os
 tape : w'.tape = w.tape
 output : w'.output = w.output
 size : w.heap.size ≤ w'.heap.size
 block : ∀ k, k < w.heap.size → k ≠ g → some k ≠ row → w'.heap[k]? = w.heap[k]?
theorem Only.of_below {w w' : World} (h : Below w.heap.size w w') (g : Nat) (row : Option Nat) : Only g row w w' := ⟨h.os, h.tape, h.output, h.size, fun k hk _ _ => h.block k hk⟩
theorem Only.of_grown {w w' : World} {row : Option Nat} (h : w.grownBy w' row) (g : Nat) : Only g row w w' := ⟨h.os, h.tape, h.output, h.size, fun k hk _ hr => h.block k hk hr⟩
theorem Only.trans {g : Nat} {row row' : Option Nat} {a b c : World} (h : Only g row a b) (k : Only g row' b c) (hr : row' = row ∨ ∃ n, row' = some n ∧ a.heap.size ≤ n) : Only g row a c :=
 ⟨k.os.trans h.os, k.tape.trans h.tape, k.output.trans h.output, Nat.le_trans h.size k.size, fun i hi hg hro => (k.block i (Nat.lt_of_lt_of_le hi h.size) hg (by
  rcases hr with rfl | ⟨n, rfl, hn⟩
  · exact hro
  · intro e; injection e with e
    omega)).trans (h.block i hi hg hro)⟩
theorem Only.setCell {g : Nat} {row : Option Nat} {a w : World} (h : Only g row a w) (o : Nat) (u : Value) : Only g row a (w.setCell ⟨g, o, none⟩ u) :=
 ⟨h.os, h.tape, h.output, by simpa [World.setCell] using h.size, fun k hk hg hr => (BH w ⟨g, o, none⟩ u k hg).trans (h.block k hk hg hr)⟩
structure SetIs (T E : Nat) (w : World) (B g : Nat) (v : Value) (l : List S30) : Prop where
 lo : B ≤ g
 blk : w.heap[g]? = some (.cells #[v] T (0, 0))
 row : LRow w B E 3 v l.length (l.flatMap enc3)
theorem SetIs.lt {T E : Nat} {w : World} {B g : Nat} {v : Value} {l : List S30} (h : SetIs T E w B g v l) : g < w.heap.size := ltA h.blk
theorem SetIs.cell {T E : Nat} {w : World} {B g : Nat} {v : Value} {l : List S30} (h : SetIs T E w B g v l) : w.cell? ⟨g, 0, none⟩ = some v := (cell_of_row w g 0 _ T (0, 0) h.blk).trans rfl
theorem SetIs.move {T E : Nat} {w w1 : World} {B g : Nat} {v : Value} {l : List S30} (h : SetIs T E w B g v l) (h1 : w1.heap[g]? = w.heap[g]?) (h2 : ∀ k, v.ownBlock = some k → w1.heap[k]? = w.heap[k]?) : SetIs T E w1 B g v l := ⟨h.lo, h1.trans h.blk, h.row.move h2⟩
theorem SetIs.step {T E : Nat} {w w1 : World} {B g : Nat} {v : Value} {l : List S30} (h : SetIs T E w B g v l) (hb : Below w.heap.size w w1) : SetIs T E w1 B g v l := h.move (hb.block g h.lt) (fun k hk => hb.block k (h.row.lt k hk).1)
theorem SetIs.ne {T E : Nat} {w : World} {B g : Nat} {v : Value} {l : List S30} (h : SetIs T E w B g v l) (hTE : T ≠ E) : some g ≠ v.ownBlock := by
 intro e; obtain ⟨_, _, cur, hc⟩ := h.row.lt g e.symm; rw [h.blk] at hc; injection hc with hc
 injection hc with _ hc
 exact hTE hc
theorem SetIs.slice {T E : Nat} {w : World} {B g : Nat} {v : Value} {l : List S30} (h : SetIs T E w B g v l) : ∃ A c, v = .slice A l.length c ∧ l.length ≤ c := h.row.slice
theorem SetIs.elem {T E : Nat} {w : World} {B g c : Nat} {A : Option Addr} {l : List S30} (h : SetIs T E w B g (.slice A l.length c) l) (j : Nat) (hj : j < l.length) :
 ∃ b, A = some ⟨b, 0, none⟩ ∧ w.cell? ⟨b, j * 3, none⟩ = some (O Y (l.getD j z30).f0) ∧ w.cell? ⟨b, j * 3 + 1, none⟩ = some (O Y (l.getD j z30).f1) ∧ w.cell? ⟨b, j * 3 + 2, none⟩ = some (O Y (l.getD j z30).f2) := by
 have hr := h.row; obtain ⟨h1, h2⟩ := id hr; rcases h2 with ⟨h3, h4⟩ | ⟨b, cap, cur, h3, _⟩
 · omega
 · injection h3 with h3 h4 h5
   subst h3 h5; have e : ∀ i, (⟨b, 0, none⟩ : Addr).add i = ⟨b, i, none⟩ := by intro i; unfold Addr.add; split <;> simp_all
   have hget : l[j]? = some (l.getD j z30) := by rw [GD, GE hj]; rfl
   refine ⟨b, rfl, ?_, ?_, ?_⟩
   · have := hr.cell (j * 3) (O Y (l.getD j z30).f0) (by have := flat_get l j 0 (by omega); rw [Nat.add_zero] at this; rw [this, hget]; rfl); rwa [e] at this
   · have := hr.cell (j * 3 + 1) (O Y (l.getD j z30).f1) (by rw [flat_get l j 1 (by omega), hget]; rfl); rwa [e] at this
   · have := hr.cell (j * 3 + 2) (O Y (l.getD j z30).f2) (by rw [flat_get l j 2 (by omega), hget]; rfl); rwa [e] at this
def Left (T E : Nat) (w w' : World) (B g : Nat) (v : Value) (l' : List S30) : Prop := ∃ v', SetIs T E w' B g v' l' ∧ Only g v.ownBlock w w' ∧ (v'.ownBlock = v.ownBlock ∨ ∃ b, v'.ownBlock = some b ∧ w.heap.size ≤ b)
theorem info30 : (Tryz.prog.info? 171).map (fun i => (i.zero, i.size, i.bytes)) = some (some (.agg #[O Y 0, O Y 0, O Y 0]), 3, 24) := by kernel_rfl
theorem left_of_append {T E : Nat} {w W w1 : World} {B g : Nat} {v v1 : Value} {l l' : List S30} (HS : SetIs T E w B g v l) (hTE : T ≠ E) (hW : Below w.heap.size w W) (hg : W.grownBy w1 v.ownBlock) (hrow : LRow w1 B E 3 v1 l'.length (l'.flatMap enc3))
 (hat : v1.ownBlock = v.ownBlock ∨ v1.ownBlock = some W.heap.size) : Left T E w (w1.setCell ⟨g, 0, none⟩ v1) B g v l' := by
 have hgW : g < W.heap.size := Nat.lt_of_lt_of_le HS.lt hW.size; have hb1 : w1.heap[g]? = some (.cells #[v] T (0, 0)) := (hg.block g hgW (HS.ne hTE)).trans ((hW.block g HS.lt).trans HS.blk); refine ⟨v1, ⟨HS.lo, (blk_set hb1 0 v1).trans rfl, hrow.move (fun k hk => BH w1 _ _ k (fun e => ?_))⟩, ((Only.of_below hW g v.ownBlock).trans (Only.of_grown hg g) (.inl rfl)).setCell 0 v1, ?_⟩
 · obtain ⟨_, _, cur, hc⟩ := hrow.lt k hk; have e' : k = g := e; rw [e', hb1] at hc; injection hc with hc
   injection hc with _ hc
   exact hTE hc
 · rcases hat with h | h
   · exact .inl h
   · exact .inr ⟨_, h, hW.size⟩
theorem new_any (w : World) : Calls Tryz.prog 25 #[] w fun e w' => e = .returned (.pointer (some ⟨w.heap.size, 0, none⟩)) ∧ w' = w.alloc (.cells #[.slice none 0 0] 138) := by
 go_enter Tryz.func25, Tryz.ntmps25; go_wp2; go_ret; exact ⟨rfl, rfl⟩
theorem new_set (w : World) (B : Nat) (hB : B ≤ w.heap.size) : SetIs 138 171 (w.alloc (.cells #[.slice none 0 0] 138)) B w.heap.size (.slice none 0 0) [] :=
 ⟨hB, heap_alloc_new w _, ⟨rfl, .inl ⟨rfl, rfl⟩⟩⟩
theorem put_ok (j : S30) (g B : Nat) (v : Value) (l : List S30) (w : World) (hs : SetIs 138 171 w B g v l) (hB : B ≤ w.heap.size) (h1 : 1 ≤ j.f1) (h2 : j.f1 ≤ 100) (h3 : l.length < 10000) :
 Calls Tryz.prog 77 #[.pointer (some ⟨g, 0, none⟩), .agg #[O Y j.f0, O Y j.f1, O Y j.f2]] w fun e w' => e = .returned (O Y 0) ∧ Left 138 171 w w' B g v (l ++ [j]) := by
 have d1 : decide (j.f1 < 1) = false := decide_eq_false (by omega); have d2 : decide (100 < j.f1) = false := decide_eq_false (by omega); obtain ⟨A, c, rfl, hlc⟩ := hs.slice; have hc := hs.cell; have hlt := hs.lt; have HS := ZZ hs; clear hs; have d3 : decide ((10000 : Int) ≤ (l.length : Int)) = false := decide_eq_false (by omega); clear h1 h2; have H3 := ZZ h3; have HB := ZZ hB; clear h3 hlc hB; obtain ⟨i0, hi, hz0, hz1, hz2⟩ := info_parts info30; replace hi := ZZ hi; replace hz0 := ZZ hz0; replace hz1 := ZZ hz1; replace hz2 := ZZ hz2; go_enter Tryz.func77, Tryz.ntmps77; go_wp2; refine st 11 (S := fun w' => w'.cell? ⟨g, 0, none⟩ = some (.slice A l.length c) ∧ w'.cell? ⟨w.heap.size, 0, none⟩ = some (O Y j.f0) ∧ w'.cell? ⟨w.heap.size, 1, none⟩ = some (O Y j.f1) ∧ w'.cell? ⟨w.heap.size, 2, none⟩ = some (O Y j.f2)) (ds := [7, 10]) ⟨by go_simp, by go_simp, by go_simp, by go_simp⟩ (fun hHeld => ?_); refine pq 0 ?_; refine pq 1 ?_; refine pq 2 ?_; refine pq 3 ?_; refine tk 4 hHeld ?_; refine tk 5 hHeld ?_; refine rg1 6 (fun K hK => ?_); refine value_ (w1 := ?_) (v := ?_) (by rfl) rfl ?_ ?_; rotate_left 2
 · go_simp; constructor
   · rfl
   · rfl
 refine hK.out _ _ ⟨by go_simp, by go_simp, by go_simp, by go_simp⟩ (fun hHeld => ?_); clear hK K; refine nm ?_; refine rg2 7 (fun K hK => ?_); refine step_append_loose _ B (by rfl) (.tmp 28) (.tmp 30) 136 171 _ 3 24 rfl Tryz.underlying136 info30 rfl (by decide) (by decide) (.slice A l.length c) l.length (l.flatMap enc3) (enc3 j) (some ⟨_, 0, none⟩) 1 1 rfl rfl rfl ?one ?row ?src ?low ?len ?go; case one => intro u hu; exact flat_one [j] u (by simpa using hu)
 case row => exact ((HS.out.row.move (fun k hk => Below.heap_alloc _ _ k (HS.out.row.lt k hk).1)).move (fun k hk => rfl)).move (fun k hk => Below.heap_alloc _ _ k (by have := (HS.out.row.lt k hk).1; simp; omega))
 case src => exact .inr ⟨_, rfl, by have h := World.news_of_block (cs := #[O Y j.f0, O Y j.f1, O Y j.f2]) (t := 171) (fr := (0, 0)) (heap_alloc_new (w.alloc (.cells #[O Y j.f0, O Y j.f1, O Y j.f2] 171)) (.cells #[O Y j.f0, O Y j.f1, O Y j.f2] 171)); simpa [enc3] using h⟩
 case low => have := HB.out; simp; omega
 case len => have := H3.out; omega
 case go =>
  intro v1 w1 hrow hg hat
  obtain ⟨A1, c1, rfl, _⟩ := hrow.slice; have hlt2 : g < w1.heap.size := Nat.lt_of_lt_of_le (by simp; omega) hg.size; have hb1 : w1.heap[g]? = some (.cells #[.slice A l.length c] 138 (0, 0)) := (hg.block g (by simp; omega) (HS.out.ne (by decide))).trans ((Below.heap_alloc _ _ g (by simp; omega)).trans ((Below.heap_alloc w _ g hlt).trans HS.out.blk)); have hcell1 : w1.cell? ⟨g, 0, none⟩ = some (.slice A l.length c) := (cell_of_row w1 g 0 _ 138 (0, 0) hb1).trans rfl; have hfr1 : w1.frozen? ⟨g, 0, none⟩ = false := by simp [World.frozen?, hb1]
  clear hb1; replace hrow := ZZ hrow; replace hg := ZZ hg; replace hat := ZZ hat
  refine hK.out _ _ ?_; clear hK K; refine nm ?_; refine pq 8 ?_; refine pq 9 ?_; refine rg2 10 (fun K hK => ?_); refine skip_ (w1 := ?_) (by rfl) rfl ?_ ?_; rotate_left
  · go_simp; rfl
  refine hK.out _ _ ?_; clear hK K; refine dn ?_; go_wp2; go_ret; refine ⟨rfl, left_of_append HS.out (by decide) (((BR _ _).alloc (NR _) _).alloc (by simp) _).drew hg.out ?_ hat.out⟩; rw [List.length_append, flat_append]; have := hrow.out; simpa using this
def mxp (l : List S30) : Int := l.foldl (fun m j => if m < j.f1 then j.f1 else m) 0
def placesFrom (p : Int) : Nat → List S30 → List Int
 | _, [] => []
 | n, j :: l => if j.f1 = p then (n : Int) :: placesFrom p (n + 1) l else placesFrom p (n + 1) l
def places (l : List S30) (p : Int) : List Int := placesFrom p 0 l
theorem mxp_snoc (l : List S30) (j : S30) : mxp (l ++ [j]) = if mxp l < j.f1 then j.f1 else mxp l := by
 unfold mxp; rw [List.foldl_append]; rfl
theorem fold_ge (l : List S30) : ∀ m : Int, m ≤ l.foldl (fun m j => if m < j.f1 then j.f1 else m) m ∧ ∀ j ∈ l, j.f1 ≤ l.foldl (fun m j => if m < j.f1 then j.f1 else m) m := by
 induction l with
 | nil => intro m; exact ⟨Int.le_refl _, fun j h => by cases h⟩
 | cons x l ih =>
  intro m; rw [List.foldl_cons]; obtain ⟨h1, h2⟩ := ih (if m < x.f1 then x.f1 else m); have h3 : m ≤ (if m < x.f1 then x.f1 else m) ∧ x.f1 ≤ (if m < x.f1 then x.f1 else m) := by split <;> omega
  refine ⟨by omega, fun j hj => ?_⟩; rcases List.mem_cons.1 hj with rfl | hj
  · omega
  · exact h2 j hj
theorem mxp_ge (l : List S30) (j : S30) (h : j ∈ l) : j.f1 ≤ mxp l := (fold_ge l 0).2 j h
theorem placesFrom_snoc (p : Int) (j : S30) : ∀ (l : List S30) (n : Nat), placesFrom p n (l ++ [j]) = placesFrom p n l ++ (if j.f1 = p then [((n + l.length : Nat) : Int)] else []) := by
 intro l; induction l with
 | nil => intro n; simp [placesFrom]
 | cons x l ih =>
  intro n; rw [List.cons_append, placesFrom, placesFrom, ih (n + 1), List.length_cons, show n + 1 + l.length = n + (l.length + 1) by omega]; split
  · rfl
  · rfl
theorem places_snoc (l : List S30) (j : S30) (p : Int) : places (l ++ [j]) p = places l p ++ (if j.f1 = p then [(l.length : Int)] else []) := by
 have := placesFrom_snoc p j l 0; rw [Nat.zero_add] at this; exact this
theorem placesFrom_none (p : Int) : ∀ (l : List S30) (n : Nat), (∀ j ∈ l, j.f1 ≠ p) → placesFrom p n l = [] := by
 intro l; induction l with
 | nil => intro n _; rfl
 | cons x l ih =>
  intro n h; rw [placesFrom, if_neg (h x List.mem_cons_self), ih (n + 1) (fun j hj => h j (List.mem_cons_of_mem _ hj))]
theorem placesFrom_len (p : Int) : ∀ (l : List S30) (n : Nat), (placesFrom p n l).length ≤ l.length := by
 intro l; induction l with
 | nil => intro n; exact NR _
 | cons x l ih =>
  intro n; rw [placesFrom]; have := ih (n + 1); split
  · rw [List.length_cons, List.length_cons]; omega
  · rw [List.length_cons]; omega
theorem take_snoc (l : List S30) (k : Nat) (h : k < l.length) : l.take (k + 1) = l.take k ++ [l.getD k z30] := by
 rw [GD, GE h]; exact List.take_succ_eq_append_getElem h
def IsAt (w : World) (B : Nat) (v : Value) (L : List Int) : Prop := LRow w B 3 1 v L.length (L.map (O Y))
theorem IsAt.nil (w : World) (B : Nat) : IsAt w B (.slice none 0 0) [] := ⟨rfl, .inl ⟨rfl, rfl⟩⟩
theorem IsAt.cut {w : World} {B n c : Nat} {A : Option Addr} {L : List Int} (h : IsAt w B (.slice A n c) L) : IsAt w B (.slice A 0 0) [] := by
 obtain ⟨h1, h2⟩ := h; refine ⟨rfl, ?_⟩; rcases h2 with ⟨h3, _⟩ | ⟨g, cap, cur, h3, h4, h5, _⟩
 · injection h3 with h3 _ _
   rw [h3]; exact .inl ⟨rfl, rfl⟩
 · injection h3 with h3 _ _
   rw [h3]; exact .inr ⟨g, 0, cur, rfl, h4, h5, NR _, Nat.zero_le _, by omega, by simp⟩
theorem IsAt.step {w w1 : World} {B : Nat} {v : Value} {L : List Int} (h : IsAt w B v L) (hb : Below w.heap.size w w1) : IsAt w1 B v L := h.move (fun k hk => hb.block k (h.lt k hk).1)
theorem at_next {w wr W w1 : World} {B : Nat} {v : Value} {L : List Int} (hb : Below B w wr) (hB : B ≤ wr.heap.size) (h : IsAt wr B v L) (hW : Below wr.heap.size wr W) (hg : W.grownBy w1 v.ownBlock) : Below B w w1 :=
 (hb.trans (hW.mono hB)).grown hg (Nat.le_trans hB hW.size) (fun k hk => (h.lt k hk).2.1)
theorem info3 : (Tryz.prog.info? 3).map (fun i => (i.zero, i.size, i.bytes)) = some (some (O Y 0), 1, 8) := by kernel_rfl
theorem oneInt (k : Int) : ∀ u ∈ [O Y k], u.oneCell' = true := by
 intro u hu; rw [List.mem_singleton.1 hu]; rfl
def BestPost (w : World) (l : List S30) (e : Ending) (w' : World) : Prop := ∃ va, e = .returned (.tuple #[va, O Y (mxp l)]) ∧ IsAt w' w.heap.size va (places l (mxp l)) ∧ Below w.heap.size w w'
def BestRel (w : World) (l : List S30) (va vp vi : Value) (wr : World) : Prop := ∃ k : Nat, k ≤ l.length ∧ vi = O Y k ∧ vp = O Y (mxp (l.take k)) ∧ IsAt wr w.heap.size va (places (l.take k) (mxp (l.take k))) ∧ Below w.heap.size w wr
theorem best_any (g B : Nat) (v : Value) (l : List S30) (w : World) (hs : SetIs 138 171 w B g v l) (hl : l.length ≤ 10000) : Calls Tryz.prog 121 #[.pointer (some ⟨g, 0, none⟩)] w (BestPost w l) := by
 obtain ⟨A, c, rfl, hlc⟩ := hs.slice; have hc := hs.cell; have hlt := hs.lt; have HS := ZZ hs; have HL := ZZ hl; clear hs hlc hl; go_enter Tryz.func121, Tryz.ntmps121; go_wp2_with fail; go_loopw [4, 5, 13] (fun va vp vi wr => BestRel w l va vp vi wr) (fun _ _ vi _ => l.length - (intOf vi).toNat); case atStart => exact ⟨0, Nat.zero_le _, rfl, rfl, IsAt.nil _ _, BR _ _⟩
 case round =>
  obtain ⟨k, hk, rfl, rfl, hat, hb⟩ := hrel; by_cases hlk : k < l.length
  · obtain ⟨b, rfl, c0, c1, c2⟩ := HS.out.elem k hlk; have hbl : b < w.heap.size := World.block_lt_of_cell? w _ c0; have d0 := (hb.cell (p := ⟨b, k * 3, none⟩) hbl).trans c0; have d1 := (hb.cell (p := ⟨b, k * 3 + 1, none⟩) hbl).trans c1; have d2 := (hb.cell (p := ⟨b, k * 3 + 2, none⟩) hbl).trans c2; clear c0 c1 c2; have hbl2 : b < wr.heap.size := Nat.lt_of_lt_of_le hbl hb.size; have htk := take_snoc l k hlk; have hms := mxp_snoc (l.take k) (l.getD k z30); have hpl := places_snoc (l.take k) (l.getD k z30); have hge : ∀ j ∈ l.take k, j.f1 ≤ mxp (l.take k) := fun j hj => mxp_ge _ j hj; rw [← htk] at hms; rw [← htk] at hpl; rw [show (l.take k).length = k by simp; omega] at hpl; generalize l.getD k z30 = x at *; generalize hM : mxp (l.take k) = M at *; generalize hP : places (l.take k) M = R at *; have hRk : R.length ≤ k := by rw [← hP]; have := placesFrom_len M (l.take k) 0; simp at this; unfold places; omega
    replace hms := ZZ hms; replace hpl := ZZ hpl; replace hge := ZZ hge; replace htk := ZZ htk; replace hM := ZZ hM; replace hP := ZZ hP; replace hRk := ZZ hRk; obtain ⟨A1, c1', rfl, _⟩ := hat.slice; replace hat := ZZ hat
    replace hb := ZZ hb; clear hc hlt; have hlk' : (k : Int) < (l.length : Int) := by omega
    have hkb : k < 10000 := by have := HL.out; omega
    rcases Int.lt_trichotomy M x.f1 with h | h | h
    · have e1 : decide (M < x.f1) = true := decide_eq_true h; replace h := ZZ h; cases A1 with
      | none =>
       go_wp2_with fail; go_quiet (fail); go_wp2_with (first | (at_builtin; refine wpList_append_loose _ w.heap.size rfl (.tmp 30) (.tmp 32) 22 3 (O Y 0) 1 8 rfl Tryz.underlying22 info3 rfl (by decide) (by decide) (.slice none 0 0) 0 [] [O Y k] (some ⟨_, 0, none⟩) 1 1 rfl rfl rfl (oneInt k) ?row (.inr ⟨_, rfl, ?src⟩) ?low ?len ?go))
       case row => exact (hat.out.cut).step (by repeat (first | exact BR _ _ | (with_reducible first | apply below_alloc | apply pw_below_drewN | apply below_drew1)))
       case src => first | (have hh := cell_one_new (World.drewN (wr.alloc (.cells #[O Y x.f0, O Y x.f1, O Y x.f2] 171)) nq) (O Y k) 3; rw [show (World.drewN (wr.alloc (.cells #[O Y x.f0, O Y x.f1, O Y x.f2] 171)) nq).heap.size = wr.heap.size + 1 from Array.size_push ..] at hh; exact hh) | (intro jj u hj; match jj, hj with | 0, hj => simp at hj; subst hj; simp [Addr.add])
       case low => have := hb.out.size; simp; omega
       case len => have := HL.out; have := hRk.out; first | omega | (simp; omega)
       case go =>
        intro v1 w1 hrow hg hr1; have hbn : Below w.heap.size w w1 := at_next hb.out hb.out.size (hat.out.cut) (by repeat (first | exact BR _ _ | (with_reducible first | apply below_alloc | apply pw_below_drewN | apply below_drew1))) hg; obtain ⟨A2, c2', rfl, _⟩ := hrow.slice; replace hrow := ZZ hrow; clear hg hr1; replace hbn := ZZ hbn; go_wp2_with fail; go_roundw; case rel => exact ⟨k + 1, by omega, by go_num, by rw [hms.out, if_pos h.out], by rw [hms.out, if_pos h.out, hpl.out, if_pos rfl, show places (l.take k) x.f1 = [] from placesFrom_none _ _ _ (fun j hj => by have := hge.out j hj; have := h.out; omega)]; exact hrow.out, hbn.out⟩
        case measure => simp [intOf]; omega
      | some a1 =>
       go_wp2_with fail; go_quiet (fail); go_wp2_with (first | (at_builtin; refine wpList_append_loose _ w.heap.size rfl (.tmp 30) (.tmp 32) 22 3 (O Y 0) 1 8 rfl Tryz.underlying22 info3 rfl (by decide) (by decide) (.slice (some a1) 0 0) 0 [] [O Y k] (some ⟨_, 0, none⟩) 1 1 rfl rfl rfl (oneInt k) ?row (.inr ⟨_, rfl, ?src⟩) ?low ?len ?go))
       case row => exact (hat.out.cut).step (by repeat (first | exact BR _ _ | (with_reducible first | apply below_alloc | apply pw_below_drewN | apply below_drew1)))
       case src => first | (have hh := cell_one_new (World.drewN (wr.alloc (.cells #[O Y x.f0, O Y x.f1, O Y x.f2] 171)) nq) (O Y k) 3; rw [show (World.drewN (wr.alloc (.cells #[O Y x.f0, O Y x.f1, O Y x.f2] 171)) nq).heap.size = wr.heap.size + 1 from Array.size_push ..] at hh; exact hh) | (intro jj u hj; match jj, hj with | 0, hj => simp at hj; subst hj; simp [Addr.add])
       case low => have := hb.out.size; simp; omega
       case len => have := HL.out; have := hRk.out; first | omega | (simp; omega)
       case go =>
        intro v1 w1 hrow hg hr1; have hbn : Below w.heap.size w w1 := at_next hb.out hb.out.size (hat.out.cut) (by repeat (first | exact BR _ _ | (with_reducible first | apply below_alloc | apply pw_below_drewN | apply below_drew1))) hg; obtain ⟨A2, c2', rfl, _⟩ := hrow.slice; replace hrow := ZZ hrow; clear hg hr1; replace hbn := ZZ hbn; go_wp2_with fail; go_roundw; case rel => exact ⟨k + 1, by omega, by go_num, by rw [hms.out, if_pos h.out], by rw [hms.out, if_pos h.out, hpl.out, if_pos rfl, show places (l.take k) x.f1 = [] from placesFrom_none _ _ _ (fun j hj => by have := hge.out j hj; have := h.out; omega)]; exact hrow.out, hbn.out⟩
        case measure => simp [intOf]; omega
    · have e1 : decide (M < x.f1) = false := decide_eq_false (by omega); have e2 : (x.f1 == M) = true := beq_iff_eq.mpr h.symm; replace h := ZZ h; go_wp2_with (first | (at_builtin; refine wpList_append_loose _ w.heap.size rfl (.tmp 30) (.tmp 32) 22 3 (O Y 0) 1 8 rfl Tryz.underlying22 info3 rfl (by decide) (by decide) (.slice A1 R.length c1') R.length (R.map (O Y)) [O Y k] (some ⟨_, 0, none⟩) 1 1 rfl rfl rfl (oneInt k) ?row (.inr ⟨_, rfl, ?src⟩) ?low ?len ?go))
      case row => exact (hat.out).step (by repeat (first | exact BR _ _ | (with_reducible first | apply below_alloc | apply pw_below_drewN | apply below_drew1)))
      case src => first | (have hh := cell_one_new (World.drewN (wr.alloc (.cells #[O Y x.f0, O Y x.f1, O Y x.f2] 171)) nq) (O Y k) 3; rw [show (World.drewN (wr.alloc (.cells #[O Y x.f0, O Y x.f1, O Y x.f2] 171)) nq).heap.size = wr.heap.size + 1 from Array.size_push ..] at hh; exact hh) | (intro jj u hj; match jj, hj with | 0, hj => simp at hj; subst hj; simp [Addr.add])
      case low => have := hb.out.size; simp; omega
      case len => have := HL.out; have := hRk.out; first | omega | (simp; omega)
      case go =>
       intro v1 w1 hrow hg hr1; have hbn : Below w.heap.size w w1 := at_next hb.out hb.out.size (hat.out) (by repeat (first | exact BR _ _ | (with_reducible first | apply below_alloc | apply pw_below_drewN | apply below_drew1))) hg; obtain ⟨A2, c2', rfl, _⟩ := hrow.slice; replace hrow := ZZ hrow; clear hg hr1; replace hbn := ZZ hbn; go_wp2_with fail; go_roundw; case rel => exact ⟨k + 1, by omega, by go_num, by rw [hms.out, if_neg (by have := h.out; omega)], by rw [hms.out, if_neg (by have := h.out; omega), hpl.out, if_pos h.out.symm, hP.out]; have := hrow.out; unfold IsAt; rw [List.length_append, List.map_append]; exact this, hbn.out⟩
       case measure => simp [intOf]; omega
    · have e1 : decide (M < x.f1) = false := decide_eq_false (by omega); have e2 : (x.f1 == M) = false := beq_eq_false_iff_ne.mpr (by omega); replace h := ZZ h; go_wp2_with fail; go_roundw; case rel => exact ⟨k + 1, by omega, by go_num, by rw [hms.out, if_neg (by have := h.out; omega)], by rw [hms.out, if_neg (by have := h.out; omega), hpl.out, if_neg (by have := h.out; omega), hP.out, List.append_nil]; exact hat.out.step (by repeat (first | exact BR _ _ | (with_reducible first | apply below_alloc | apply pw_below_drewN | apply below_drew1))), hb.out.trans ((show Below wr.heap.size wr _ from (by repeat (first | exact BR _ _ | (with_reducible first | apply below_alloc | apply pw_below_drewN | apply below_drew1)))).mono hb.out.size)⟩
      case measure => simp [intOf]; omega
  · have e0 : ¬ ((k : Int) < (l.length : Int)) := by omega
    obtain rfl : k = l.length := by omega
    rw [List.take_length] at hat ⊢; have HA := ZZ hat
    have HB := ZZ hb; clear hat hb; go_wp2_with fail; go_ret2; exact ⟨_, rfl, HA.out, HB.out⟩
end Go.Proofs.YtoopeamoejmjeaaGreat.Rd
