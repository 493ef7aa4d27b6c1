/- Steps of the walk, merged and shortened by a program (fit.py). -/
import Derived.ChangeArms
import Derived.ChangeSame
import Derived.Deep.Fields
import Derived.Deep.Slices
import Derived.KernelRfl
import Derived.Lib.Hide
import Derived.Test.YtoopeamoejmjeaaGreatA01
import Derived.Test.YtoopeamoejmjeaaGreatA02
import Derived.Test.YtoopeamoejmjeaaGreatA15
import Derived.Test.YtoopeamoejmjeaaGreatWCut
set_option linter.unusedVariables false
set_option linter.unusedSimpArgs false
set_option maxRecDepth 100000
set_option maxHeartbeats 4000000
open Nat renaming le_refl → NR
open List renaming getElem?_eq_getElem → GE
open Go.RowKit.Below renaming refl → BR
open ByteArray renaming empty → BE
open List renaming getD_eq_getElem?_getD → GD
open Array renaming mem_of_getElem? → AM
open List renaming mem_of_getElem? → LM
open List renaming getElem?_eq_some_iff → GI
open List renaming map_toArray → MA
open Go.RowKit.Below renaming heap_setCell → BH
open Go.Lib renaming hid → ZZ
open Go.Value renaming int → O
open Go.IntKind renaming i64 → Y
namespace Go.Proofs.YtoopeamoejmjeaaGreat.Tp
open RowKit YtoopeamoejmjeaaGreatW.PrintWords YtoopeamoejmjeaaGreatW.PrintLast YtoopeamoejmjeaaGreatW.PrintMore Tm
def nilS : Value := .slice none 0 0
def zE (k : Nat) : List Value := entU (List.replicate k nilS)
theorem zE_next (k : Nat) : zE (k + 1) = zE k ++ [.slice none 0 0, .slice none 0 0, O Y 0] := by
 unfold zE entU; rw [List.replicate_succ', List.flatMap_append]; rfl
theorem ent_of {W : World} {B n : Nat} {v : Value} (h : LRow W B 62 3 v n (zE n)) : EntAt W v n := by
 obtain ⟨A, c, rfl, _⟩ := LRow.slice h; refine ⟨A, c, rfl, fun k hk => ?_⟩; obtain ⟨t0, t1, t2⟩ := entU_at (us := List.replicate n nilS) (k := k) (u := nilS) (by rw [List.getElem?_replicate, if_pos hk])
 obtain ⟨g, rfl⟩ : ∃ g, A = some ⟨g, 0, none⟩ := by
  rcases h.2 with ⟨_, h0⟩ | ⟨gv, cap, cur, h0, _⟩
  · omega
  · injection h0 with h0; exact ⟨gv, h0⟩
 have x0 := LRow.cell h _ _ t0; have x1 := LRow.cell h _ _ t1; have x2 := LRow.cell h _ _ t2; rw [add_plain] at x0 x1 x2; exact ⟨g, rfl, x0, x1, x2⟩
theorem field26 (gt : Nat) (w : World) : (Instr.field 26 (simpleV gt) 6).run Tryz.prog w = .ok (.slice (some ⟨gt, 0, none⟩) 2 2) w := by
 unfold simpleV; obtain ⟨i0, hi, hz⟩ := Option.map_eq_some_iff.1 (show (Tryz.prog.info? 24).map (·.size) = some 1 by kernel_rfl); simp [Instr.field, run_underlying Tryz.underlying26, asAgg, part, sizeOf, typeInfo, hi, hz, isAgg, run_underlying Tryz.underlying24]
theorem known_any (w : World) : Calls Tryz.prog 8 #[] w fun e w' => e = .returned (.bool true) ∧ Below w.heap.size w w' := by
 have hEn := fun gt w h => ZZ (enc_any im0 im0_imok im0_ok im0_small im0_size (simpleV gt) w h); have hSe := fun v w h => ZZ (eenc_any (v := v) (n := 30) (W := w) h (by decide)); have hRu := fun w => ZZ (run_any w); replace hEn := ZZ hEn; replace hSe := ZZ hSe; replace hRu := ZZ hRu; generalize sealS (imgS im0) = sI at *; generalize sE 30 30 = sJ at *; go_enter Tryz.func8, Tryz.ntmps8; go_wp2_with fail; go_loopw [1, 2] (fun vl vi wr => ∃ k : Nat, k ≤ 30 ∧ vi = O Y k ∧ LRow wr w.heap.size 62 3 vl k (zE k) ∧ Below w.heap.size w wr) (fun _ vi _ => 30 - (intOf vi).toNat); case atStart => exact ⟨0, by omega, rfl, LRow.nil _ _ _ _, BR _ _⟩
 case round =>
  obtain ⟨k, hk, rfl, hrow, hb⟩ := hrel; obtain ⟨Al, cl, rfl, -⟩ := LRow.slice hrow; by_cases hkn : k < 30
  · have b1 : (k : Int) < 30 := by omega
    have hd := ZZ hkn; replace hrow := ZZ hrow; replace hb := ZZ hb; have hn := ZZ (zE_next k); clear hk hkn; go_wp2_with (first | (at_builtin; refine wpList_append_one w wr w.heap.size rfl (.tmp 9) (.tmp 11) 55 62 _ 3 56 rfl Tryz.underlying55 info62K rfl (by decide) (by decide) (.slice Al k cl) k _ _ rfl rfl rfl (by simp [Value.oneCell']) hrow.out hb.out (NR _) (by have := hd.out; omega) ?_; rintro A1 c1' w7 hrow7 hb7 - hg7) | fail)
    refine ⟨⟨k + 1, hd.out, by go_num, by rw [hn.out]; exact hrow7, hb7⟩, by have := hd.out; simp [intOf]; omega⟩
  · obtain rfl : k = 30 := by omega
    have hEt := ent_of hrow; replace hEt := ZZ hEt; replace hb := ZZ hb; clear hrow hk hkn; go_wp2_with fail; refine (simple_any _).mono ?_; rintro e w2 ⟨gt, gc, rfl, hS, hb2⟩; have hE2 := ZZ (hEt.out.step hb2); have hI := ZZ (hEn.out gt w2 hS.image); replace hb := ZZ (hb.out.trans (hb2.mono hb.out.size)); clear hEt hb2; go_wp2_with fail; refine hI.out.out.mono ?_; rintro e w3 ⟨rfl, hb3⟩; have hE3 := ZZ (hSe.out _ w3 (hE2.out.step hb3)); replace hb := ZZ (hb.out.trans (hb3.mono hb.out.size)); clear hE2 hb3 hI hEn; go_wp2_with fail; refine hE3.out.out.mono ?_; rintro e w4 ⟨rfl, hb4⟩; replace hb := ZZ (hb.out.trans (hb4.mono hb.out.size)); clear hE3 hb4 hSe; go_wp2_with fail; refine (hRu.out _).out.mono ?_; rintro e w5 ⟨ev, sm, A, c, rfl, hb5⟩; replace hb := ZZ (hb.out.trans (hb5.mono hb.out.size)); clear hRu hb5; go_wp2_with fail; have n5 := heap_alloc_last w5 (.cells #[O Y 0, O Y (-1), O Y 30, O Y 3, O Y 10, O Y ev, O Y sm, .bool false, .slice A 0 c] 70); obtain ⟨g5, hg5⟩ : ∃ g5, w5.heap.size = g5 := ⟨_, rfl⟩
    obtain ⟨W6, e6⟩ : ∃ W6, w5.alloc (.cells #[O Y 0, O Y (-1), O Y 30, O Y 3, O Y 10, O Y ev, O Y sm, .bool false, .slice A 0 c] 70) = W6 := ⟨_, rfl⟩
    rw [e6, hg5] at n5; replace hb := hb.out.alloc hb.out.size (.cells #[O Y 0, O Y (-1), O Y 30, O Y 3, O Y 10, O Y ev, O Y sm, .bool false, .slice A 0 c] 70); rw [e6] at hb; replace hb := ZZ hb; rw [e6, hg5]; clear e6 hg5; refine (simple_any _).mono ?_; rintro e w6 ⟨gt2, gc2, rfl, hS6, hb6⟩; have n6 := (hb6.block _ (ltA n5)).trans n5; have hf := field26 gt2 w6; have t6 := bk hS6.1 6 (.slice (some ⟨gc2, 0, none⟩) 1 1); have hC := ZZ (show_end hS6.code); replace n6 := ZZ n6; replace hb := ZZ (hb.out.trans (hb6.mono hb.out.size)); clear hb6 n5 hS6 hS; go_wp2_with fail; refine hC.out.mono ?_; rintro e w7 ⟨rfl, hb7⟩; have n7 := (hb7.block _ (ltA n6.out)).trans n6.out; have y0 := bk n7 0 (O Y 0); have y2 := bk n7 2 (O Y 30); have y3 := bk n7 3 (O Y 3); have y4 := bk n7 4 (O Y 10); replace hb := ZZ (hb.out.trans (hb7.mono hb.out.size)); clear hb7 n6 n7 hC hf t6; rw [show sENDl = ⟨#[69, 78, 68, 10]⟩ from rfl]; go_wp2_with fail; go_ret; exact ⟨rfl, hb.out⟩
end Go.Proofs.YtoopeamoejmjeaaGreat.Tp
namespace Go.Proofs.YtoopeamoejmjeaaGreat.Tp
open ChangeShapes WideShapes Deep RowKit
section
theorem flat_get {α : Type} {f : α → List Value} {z : Nat} (hz : 0 < z) (hf : ∀ x, (f x).length = z) : ∀ (l : List α) (k : Nat) (u : Value), (l.flatMap f)[k]? = some u → ∃ x, l[k / z]? = some x ∧ (f x)[k % z]? = some u := by
 intro l; induction l with
 | nil => intro k u h; simp at h
 | cons x l ih =>
  intro k u h; rw [List.flatMap_cons] at h; by_cases hk : k < z
  · rw [List.getElem?_append_left (by rw [hf]; exact hk)] at h; exact ⟨x, by rw [Nat.div_eq_of_lt hk]; rfl, by rw [Nat.mod_eq_of_lt hk]; exact h⟩
  · rw [List.getElem?_append_right (by rw [hf]; omega), hf] at h; obtain ⟨y, h1, h2⟩ := ih (k - z) u h; refine ⟨y, ?_, ?_⟩
    · rw [Nat.div_eq_sub_div hz (by omega), List.getElem?_cons_succ]; exact h1
    · rw [Nat.mod_eq_sub_mod (by omega)]; exact h2
theorem wf_i64 {n : Int} (h : (Lit.int .i64 n).wf = true) : -9223372036854775808 ≤ n ∧ n < 9223372036854775808 := by
 simp only [Lit.wf, Bool.and_eq_true, decide_eq_true_eq] at h; have e0 : IntKind.i64.min = -9223372036854775808 := by decide
 have e1 : IntKind.i64.max = 9223372036854775807 := by decide
 omega
section
variable {H : Type} {enc : TypeId × Value → H} {w : World} {base : Nat} {spare : Nat → Bool} {held : Bool}
theorem open_list {α : Type} {R : List Value → α → Prop} {t e : TypeId} {z : Nat} (ht : Tryz.prog.underlying t = some (.slice e)) (hz : Tryz.prog.cellsOf e = z) (d : α)
 (hR : ∀ n cs x, DataW.trod enc Tryz.prog w base spare held n e cs = some x → ∃ r, R cs r) {fuel : Nat} {cs : List Value} {x : DataW H × List MemPlace} (h : DataW.trod enc Tryz.prog w base spare held fuel t cs = some x) :
 ∃ (A : Option Addr) (cap : Nat) (zs : List α), cs = [.slice A zs.length cap] ∧ zs.length ≤ cap ∧ (zs.length : Int) ≤ 9223372036854775807 ∧ ∀ (j : Nat) (r : α), zs[j]? = some r → ∃ ad cs', A = some ad ∧ R cs' r ∧ cs'.length = z ∧ ∀ i, i < z → w.cell? ((ad.add (j * z)).add i) = cs'[i]? := by
 rcases open_slice ht h with ⟨h0, _⟩ | ⟨a, len, cap, m, n, D, Pl, hv, _, hl, hm, hmm, _, hi⟩
 · exact ⟨none, 0, [], h0, NR _, by simp, fun j r hj => by simp at hj⟩
 · rw [hz] at hi; have hlm : len ≤ m := by rw [hmm]; split <;> omega
   have each : ∀ i : Nat, i < len → ∃ q : α × List Value, w.cells? base (a.add (i * z)) z = some q.2 ∧ R q.2 q.1 := by
    intro i h; obtain ⟨cs', hc, ht'⟩ := hi i (by omega); obtain ⟨r, hr⟩ := hR _ _ _ ht'; exact ⟨(r, cs'), hc, hr⟩
   unfold maxLen at hm; refine ⟨some a, cap, (List.range len).map (fun i => if h : i < len then (Classical.choose (each i h)).1 else d), by rw [hv]; simp, by simpa using hl, by simp; omega, fun j r hj => ?_⟩; have hjl : j < len := by
    have := (GI.1 hj).1; simpa using this
   obtain ⟨hc, hcs'⟩ := Classical.choose_spec (each j hjl); have hp : r = (Classical.choose (each j hjl)).1 := by
    simp only [List.getElem?_map, List.getElem?_range hjl, Option.map_some, Option.some.injEq] at hj; rw [dif_pos hjl] at hj; exact hj.symm
   obtain ⟨_, hcl, hat⟩ := World.cells?_some hc; exact ⟨a, (Classical.choose (each j hjl)).2, rfl, by rw [hp]; exact hcs', hcl, hat⟩
theorem one3 : Tryz.prog.cellsOf 3 = 1 := by kernel_rfl
theorem one22 : Tryz.prog.cellsOf 22 = 1 := by kernel_rfl
theorem one23 : Tryz.prog.cellsOf 23 = 1 := by kernel_rfl
theorem one24 : Tryz.prog.cellsOf 24 = 1 := by kernel_rfl
theorem one43 : Tryz.prog.cellsOf 43 = 1 := by kernel_rfl
theorem three127 : Tryz.prog.cellsOf 127 = 3 := by kernel_rfl
theorem seven45 : Tryz.prog.cellsOf 45 = 7 := by kernel_rfl
theorem seven26 : Tryz.prog.cellsOf 26 = 7 := by kernel_rfl
theorem open_ints22 {fuel : Nat} {cs : List Value} {x : DataW H × List MemPlace} (h : DataW.trod enc Tryz.prog w base spare held fuel 22 cs = some x) : ∃ v l, cs = [v] ∧ IntsAt w v l ∧ Small l := by
 obtain ⟨A, cap, zs, rfl, h1, h2, h3⟩ := open_list (R := fun cs n => cs = [O Y n] ∧ -9223372036854775808 ≤ n ∧ n < 9223372036854775808) Tryz.underlying22 one3 (0 : Int) (fun n cs x hx => by
  obtain ⟨y, e, _, wf⟩ := DataW.trod_int Tryz.underlying3 hx; exact ⟨y, e, wf_i64 wf⟩) h
 refine ⟨_, zs, rfl, ⟨A, cap, rfl, h1, h2, fun j u hj => ?_⟩, fun n hn => ?_⟩
 · rw [List.getElem?_map] at hj; obtain ⟨r, hr, rfl⟩ := Option.map_eq_some_iff.1 hj; obtain ⟨ad, cs', rfl, ⟨rfl, _⟩, _, hc⟩ := h3 j r hr; have := hc 0 (by decide); rw [add_add, Nat.mul_one, Nat.add_zero] at this; exact ⟨ad, rfl, this⟩
 · obtain ⟨j, hj⟩ := List.getElem?_of_mem hn; obtain ⟨_, _, _, ⟨_, hb⟩, _⟩ := h3 j n hj; exact hb
theorem cells127 {fuel : Nat} {cs : List Value} {x : DataW H × List MemPlace} (h : DataW.trod enc Tryz.prog w base spare held fuel 127 cs = some x) : ∃ r : I3, cs = r.enc ∧ SmI r := by
 obtain ⟨xs, n, _, rfl, hl, hlen, hf⟩ := DataW.trod_struct Tryz.underlying127 h; have g0 := hf 0 _ rfl; have g1 := hf 1 _ rfl; have g2 := hf 2 _ rfl; clear hf; match cs, hl.trans three127, xs, hlen with
 | [c0, c1, c2], _, [x0, x1, x2], _ =>
  obtain ⟨n0, e0, _⟩ := DataW.trod_int Tryz.underlying3 g0; obtain ⟨n1, e1, _, w1⟩ := DataW.trod_int Tryz.underlying3 g1; obtain ⟨n2, e2, _, w2⟩ := DataW.trod_int Tryz.underlying3 g2; simp [one3] at e0 e1 e2; subst e0 e1 e2; exact ⟨⟨n0, n1, n2⟩, rfl, wf_i64 w1, wf_i64 w2⟩
theorem open_code43 {fuel : Nat} {cs : List Value} {x : DataW H × List MemPlace} (h : DataW.trod enc Tryz.prog w base spare held fuel 43 cs = some x) : ∃ v l, cs = [v] ∧ CodeAt w v l ∧ ∀ x ∈ l, SmI x := by
 obtain ⟨A, cap, zs, rfl, h1, h2, h3⟩ := open_list (R := fun cs (r : I3) => cs = r.enc ∧ SmI r) Tryz.underlying43 three127 ⟨0, 0, 0⟩ (fun n cs x hx => cells127 hx) h; refine ⟨_, zs, rfl, ⟨A, cap, rfl, h1, h2, fun j u hj => ?_⟩, fun n hn => ?_⟩
 · obtain ⟨r, hr, hu⟩ := flat_get (z := 3) (by decide) (fun _ => rfl) zs j u hj; obtain ⟨ad, cs', rfl, ⟨rfl, _⟩, _, hc⟩ := h3 _ r hr; have := hc (j % 3) (Nat.mod_lt _ (by decide)); rw [add_add, show j / 3 * 3 + j % 3 = j by omega] at this; exact ⟨ad, rfl, this.trans hu⟩
 · obtain ⟨j, hj⟩ := List.getElem?_of_mem hn; obtain ⟨_, _, _, ⟨_, hb⟩, _⟩ := h3 j n hj; exact hb
theorem open_rows23 {fuel : Nat} {cs : List Value} {x : DataW H × List MemPlace} (h : DataW.trod enc Tryz.prog w base spare held fuel 23 cs = some x) : ∃ v L, cs = [v] ∧ RowsAt w v L ∧ (∀ l ∈ L, Small l) ∧ (L.length : Int) ≤ 9223372036854775807 := by
 obtain ⟨A, cap, zs, rfl, h1, h2, h3⟩ := open_list (R := fun cs (l : List Int) => ∃ v, cs = [v] ∧ IntsAt w v l ∧ Small l) Tryz.underlying23 one22 [] (fun n cs x hx => by
  obtain ⟨v, l, e, hi, hs⟩ := open_ints22 hx; exact ⟨l, v, e, hi, hs⟩) h
 refine ⟨_, zs, rfl, ⟨A, cap, rfl, h1, fun j l hj => ?_⟩, fun n hn => ?_, h2⟩
 · obtain ⟨ad, cs', rfl, ⟨v, rfl, hi, _⟩, _, hc⟩ := h3 j l hj; have := hc 0 (by decide); rw [add_add, Nat.mul_one, Nat.add_zero] at this; exact ⟨ad, v, rfl, this, hi⟩
 · obtain ⟨j, hj⟩ := List.getElem?_of_mem hn; obtain ⟨_, _, _, ⟨v, _, _, hb⟩, _⟩ := h3 j n hj; exact hb
theorem cells45 {fuel : Nat} {cs : List Value} {x : DataW H × List MemPlace} (h : DataW.trod enc Tryz.prog w base spare held fuel 45 cs = some x) : ∃ t : TaskD, (∃ vb vo vc, cs = [O Y t.prio, O Y t.period, O Y t.deadline, O Y t.jitter, vb, vo, vc] ∧ IntsAt w vb t.blocks ∧ IntsAt w vo t.outs ∧ CodeAt w vc t.code) ∧ ∀ x ∈ t.code, SmI x := by
 obtain ⟨xs, n, _, rfl, hl, hlen, hf⟩ := DataW.trod_struct Tryz.underlying45 h; have g0 := hf 0 _ rfl; have g1 := hf 1 _ rfl; have g2 := hf 2 _ rfl; have g3 := hf 3 _ rfl; have g4 := hf 4 _ rfl; have g5 := hf 5 _ rfl; have g6 := hf 6 _ rfl; clear hf; match cs, hl.trans seven45, xs, hlen with
 | [c0, c1, c2, c3, c4, c5, c6], _, [x0, x1, x2, x3, x4, x5, x6], _ =>
  obtain ⟨n0, e0, _⟩ := DataW.trod_int Tryz.underlying3 g0; obtain ⟨n1, e1, _⟩ := DataW.trod_int Tryz.underlying3 g1; obtain ⟨n2, e2, _⟩ := DataW.trod_int Tryz.underlying3 g2; obtain ⟨n3, e3, _⟩ := DataW.trod_int Tryz.underlying3 g3; obtain ⟨v4, l4, e4, i4, _⟩ := open_ints22 g4; obtain ⟨v5, l5, e5, i5, _⟩ := open_ints22 g5; obtain ⟨v6, l6, e6, i6, s6⟩ := open_code43 g6; simp [one3, one22, one43] at e0 e1 e2 e3 e4 e5 e6; subst e0 e1 e2 e3 e4 e5 e6; exact ⟨⟨n0, n1, n2, n3, l4, l5, l6⟩, ⟨_, _, _, rfl, i4, i5, i6⟩, s6⟩
theorem open_tasks24 {fuel : Nat} {cs : List Value} {x : DataW H × List MemPlace} (h : DataW.trod enc Tryz.prog w base spare held fuel 24 cs = some x) : ∃ v L, cs = [v] ∧ TasksAt w v L ∧ (∀ t ∈ L, ∀ x ∈ t.code, SmI x) ∧ (L.length : Int) ≤ 9223372036854775807 := by
 obtain ⟨A, cap, zs, rfl, h1, h2, h3⟩ := open_list (R := fun cs (t : TaskD) => (∃ vb vo vc, cs = [O Y t.prio, O Y t.period, O Y t.deadline, O Y t.jitter, vb, vo, vc] ∧ IntsAt w vb t.blocks ∧ IntsAt w vo t.outs ∧ CodeAt w vc t.code) ∧ ∀ x ∈ t.code, SmI x) Tryz.underlying24 seven45 ⟨0, 0, 0, 0, [], [], []⟩ (fun n cs x hx => cells45 hx) h; refine ⟨_, zs, rfl, ⟨A, cap, rfl, h1, fun j t hj => ?_⟩, fun t ht => ?_, h2⟩
 · obtain ⟨ad, cs', rfl, ⟨⟨vb, vo, vc, rfl, i4, i5, i6⟩, _⟩, _, hc⟩ := h3 j t hj; have k0 := hc 0 (by decide); have k1 := hc 1 (by decide); have k2 := hc 2 (by decide); have k3 := hc 3 (by decide); have k4 := hc 4 (by decide); have k5 := hc 5 (by decide); have k6 := hc 6 (by decide); rw [add_add] at k0 k1 k2 k3 k4 k5 k6; rw [Nat.add_zero] at k0; rw [add_next _ _ 0] at k1; rw [add_next _ _ 1] at k2; rw [add_next _ _ 2] at k3; rw [add_next _ _ 3] at k4; rw [add_next _ _ 4] at k5; rw [add_next _ _ 5] at k6; exact ⟨ad, rfl, vb, vo, vc, k0, k1, k2, k3, k4, k5, k6, i4, i5, i6⟩
 · obtain ⟨j, hj⟩ := List.getElem?_of_mem ht; obtain ⟨_, _, _, ⟨_, hb⟩, _⟩ := h3 j t hj; exact hb
theorem open_image {r : Reach} {b0 : Nat} {v : Value} {d : DataW H} {p : List MemPlace} (hv : Value.okWide Tryz.prog w r b0 26 v) (h : DataW.Trod enc Tryz.prog w base spare held 26 v d p) :
 ∃ im : ImageD, ImageAt w v im ∧ im.small ∧ Small im.safe ∧ (∀ l ∈ im.blocks, Small l) ∧ (im.blocks.length : Int) ≤ 9223372036854775807 ∧ (im.tasks.length : Int) ≤ 9223372036854775807 := by
 obtain ⟨cs, rfl, _⟩ := okWide_struct Tryz.underlying26 hv; obtain ⟨fuel, h⟩ := h; obtain ⟨xs, n, _, _, hl, hlen, hf⟩ := DataW.trod_struct Tryz.underlying26 h; have g0 := hf 0 _ rfl; have g1 := hf 1 _ rfl; have g2 := hf 2 _ rfl; have g3 := hf 3 _ rfl; have g4 := hf 4 _ rfl; have g5 := hf 5 _ rfl; have g6 := hf 6 _ rfl; clear hf; obtain ⟨cs⟩ := cs; simp only [Value.cells] at hl g0 g1 g2 g3 g4 g5 g6; match cs, hl.trans seven26, xs, hlen with
 | [c0, c1, c2, c3, c4, c5, c6], _, [x0, x1, x2, x3, x4, x5, x6], _ =>
  obtain ⟨n0, e0, _⟩ := DataW.trod_int Tryz.underlying3 g0; obtain ⟨n1, e1, _⟩ := DataW.trod_int Tryz.underlying3 g1; obtain ⟨n2, e2, _⟩ := DataW.trod_int Tryz.underlying3 g2; obtain ⟨n3, e3, _⟩ := DataW.trod_int Tryz.underlying3 g3; obtain ⟨v4, l4, e4, i4, s4⟩ := open_ints22 g4; obtain ⟨v5, l5, e5, i5, s5, z5⟩ := open_rows23 g5; obtain ⟨v6, l6, e6, i6, s6, z6⟩ := open_tasks24 g6; simp [one3, one22, one23, one24] at e0 e1 e2 e3 e4 e5 e6; subst e0 e1 e2 e3 e4 e5 e6; exact ⟨⟨n0, n1, n2, n3, l4, l5, l6⟩, ⟨_, _, _, rfl, i4, i5, i6⟩, s6, s4, s5, z5, z6⟩
end
end
end Go.Proofs.YtoopeamoejmjeaaGreat.Tp
