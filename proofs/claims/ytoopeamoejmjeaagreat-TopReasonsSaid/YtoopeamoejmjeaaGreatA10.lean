/- Steps of the walk, merged and shortened by a program (fit.py). -/
import Derived.Lib.Hide
import Derived.Test.YtoopeamoejmjeaaGreatA01
import Derived.Test.YtoopeamoejmjeaaGreatA04
import Derived.Test.YtoopeamoejmjeaaGreatA06
import Derived.Test.YtoopeamoejmjeaaGreatA07
import Derived.Test.YtoopeamoejmjeaaGreatA09
import Derived.Test.YtoopeamoejmjeaaGreatWCut
set_option linter.unusedVariables false
set_option linter.unusedSimpArgs false
set_option maxRecDepth 100000
set_option maxHeartbeats 4000000
open Nat renaming le_refl → NR
open List renaming getElem?_eq_getElem → GE
open Go.RowKit.Below renaming refl → BR
open ByteArray renaming empty → BE
open List renaming getD_eq_getElem?_getD → GD
open Array renaming mem_of_getElem? → AM
open List renaming mem_of_getElem? → LM
open List renaming getElem?_eq_some_iff → GI
open List renaming map_toArray → MA
open Go.RowKit.Below renaming heap_setCell → BH
open Go.Lib renaming hid → ZZ
open Go.Value renaming int → O
open Go.IntKind renaming i64 → Y
namespace Go.Proofs.YtoopeamoejmjeaaGreat.Tp
open RowKit YtoopeamoejmjeaaGreatW.PrintWords YtoopeamoejmjeaaGreatW.PrintLast YtoopeamoejmjeaaGreatW.PrintMore Tm
def machC (vc vm : Value) (on : Bool) (at_ st : Int) : Array Value := #[vc, vm, O Y 0, O Y 0, O Y 0, O Y 0, O Y 0, O Y 0, O Y 0, O Y 0, .bool on, O Y at_, .slice none 0 0, O Y 0, O Y 0, O Y 0, O Y 0, O Y 0, O Y 0, O Y 0, O Y 0, O Y 0, O Y 0, O Y 0, O Y 0, O Y 0, O Y 0, O Y 0, O Y 0, O Y 0, O Y 0, O Y 0, O Y 0, O Y 0, O Y 0, O Y 0, O Y 0, O Y 0, O Y 0, O Y 0, O Y 0, O Y 0, O Y 0, O Y 0, O Y 0, O Y 0, O Y 0, O Y 0, O Y 0, O Y 0, O Y 0, O Y 0, O Y 0, O Y 0, .slice none 0 0, O Y 0, O Y 0, O Y st]
theorem worst_new {l : List I3} (h : (worstP l).2 = 0) : locksE l = 0 ∧ stacksE l = 0 ∧ (scanP l).isSome = true := by
 have h1 : countE l = 0 := by
  unfold worstP at h; split at h
  · assumption
  · exact h
 unfold countE at h1; split at h1
 · rename_i h2; refine ⟨h2, h1, whole_scan ?_⟩; unfold locksE at h2; split at h2
   · assumption
   · exact h2
 · rename_i h2; exact absurd h1 h2
theorem info127V : (Tryz.prog.info? 127).map (fun i => (i.zero, i.size, i.bytes)) = some (some (.agg #[O Y 0, O Y 0, O Y 0]), 3, 24) := by kernel_rfl
theorem code_len (l : List I3) : (l.flatMap I3.enc).length = l.length * 3 := by
 induction l with
 | nil => rfl
 | cons x l ih => rw [List.flatMap_cons, List.length_append, ih, List.length_cons]; show 3 + _ = _; omega
theorem code_one (l : List I3) : ∀ u ∈ l.flatMap I3.enc, u.oneCell' = true := by
 intro u hu; obtain ⟨x, _, hx⟩ := List.mem_flatMap.1 hu; simp only [I3.enc, List.mem_cons, List.not_mem_nil, or_false] at hx; rcases hx with rfl | rfl | rfl <;> rfl
def VmP (w : World) (l : List I3) (e : Ending) (w' : World) : Prop := ∃ g vc vm, e = .returned (.tuple #[.pointer (some ⟨g, 0, none⟩), O Y 0]) ∧ w'.heap[g]? = some (.cells (machC vc vm false 0 0) 146 (0, 0)) ∧ LRow w' w.heap.size 127 3 vc l.length (l.flatMap I3.enc) ∧ Below w.heap.size w w' ∧ w.heap.size ≤ g ∧ vm.oneCell' = true
theorem vmnew_any (v : Value) (l : List I3) (w : World) (h : CodeAt w v l) (hl : OkL l) (hE : (worstP l).2 = 0) : Calls Tryz.prog 26 #[v] w (VmP w l) := by
 obtain ⟨e1, e2, e3⟩ := worst_new hE; have hL := ZZ (locks_any v l w h hl); have hS := ZZ (fun w h => stacks_any v l w h hl); have hM := ZZ (fun w h => match_any v l w h hl e3); obtain ⟨A, c, rfl, hc, hn, hcell⟩ := id h; rw [e1] at hL; simp only [e2] at hS; have hlen := hl.le; have hpos := ZZ hl.pos; replace h := ZZ h; replace hlen := ZZ hlen; clear hl hE e1 e2 e3 hcell hc hn; go_enter Tryz.func26, Tryz.ntmps26; go_wp2_with fail; refine hL.out.mono ?_; rintro e w1 ⟨vo, rfl, -, hb1⟩; have h1 := h.out.step hb1; have hSt := ZZ (hS.out _ h1); replace h1 := ZZ h1; replace hb1 := ZZ hb1; go_wp2_with fail; refine hSt.out.mono ?_; rintro e w2 ⟨vs, rfl, hb2⟩; have h2 := h1.out.step hb2; have hMt := ZZ (hM.out _ h2); have hB2 := ZZ (hb1.out.trans (hb2.mono hb1.out.size)); replace h2 := ZZ h2; clear hb2; go_wp2_with fail; refine hMt.out.mono ?_; rintro e w3 ⟨vm, rfl, ⟨gm, rfl, -, -⟩, hb3⟩; have h3 := h2.out.step hb3; have hB3 := ZZ (hB2.out.trans (hb3.mono hB2.out.size)); obtain ⟨_, _, e3, hc, hn, hcell⟩ := id h3; injection e3 with e3 _ e4
 subst e3 e4; replace h3 := ZZ h3; replace hcell := ZZ hcell; replace hc := ZZ hc; clear hb3; obtain ⟨x, hx⟩ : ∃ x, l[0]? = some x := ⟨_, GE hpos.out⟩
 obtain ⟨ad, rfl, _⟩ := hcell.out _ _ (enc_get l 0 x hx).1; have hsrc : ∀ j u, (l.flatMap I3.enc)[j]? = some u → w3.cell? (ad.add j) = some u := fun j u hj => by
  obtain ⟨ad', e, hc'⟩ := hcell.out j u hj; injection e with e
  subst e; exact hc'
 replace hx := ZZ hx; replace hsrc := ZZ hsrc; go_wp2_with (first | (at_builtin; refine wpList_append_loose _ w.heap.size rfl (.const (.slice none 0 0)) (.tmp 31) 43 127 _ 3 24 rfl Tryz.underlying43 info127V rfl (by decide) (by decide) (.slice none 0 0) 0 [] (l.flatMap I3.enc) (some ad) l.length c rfl rfl (code_len l) (code_one l) ⟨rfl, .inl ⟨rfl, rfl⟩⟩ (.inr ⟨_, rfl, hsrc.out⟩) ?low ?len ?go) | fail)
 case low => exact hB3.out.size
 case len => have := hlen.out; omega
 case go =>
  intro v1 w4 hrow hg hat
  try rw [Nat.zero_add, List.nil_append] at hrow
  obtain ⟨A1, c1, rfl, -⟩ := LRow.slice hrow; have hb4 := hB3.out.grown hg hB3.out.size (fun k hk => by simp [Value.ownBlock] at hk); have hf := heap_alloc_last w4 (.cells (machC (.slice A1 l.length c1) (.slice (some ⟨gm, 0, none⟩) l.length l.length) false 0 0) 146); have hB := hb4.alloc hb4.size (.cells (machC (.slice A1 l.length c1) (.slice (some ⟨gm, 0, none⟩) l.length l.length) false 0 0) 146); have hr := LRow.step hrow ((BR _ _).alloc (NR _) (.cells (machC (.slice A1 l.length c1) (.slice (some ⟨gm, 0, none⟩) l.length l.length) false 0 0) 146)); have hz := hb4.size; unfold machC at hf hB hr; replace hf := ZZ hf; replace hB := ZZ hB; replace hr := ZZ hr; replace hz := ZZ hz; clear hrow hg hat hb4; go_wp2_with fail; go_ret2; exact ⟨_, _, _, rfl, hf.out, hr.out, hB.out, hz.out, by simp [Value.oneCell']⟩
theorem vmnewH {w0 W : World} {L : List Asn} (H : Has w0 W L) (v : Value) (l : List I3) (h : CodeAt W v l) (hl : OkL l) (hE : (worstP l).2 = 0) : Calls Tryz.prog 26 #[v] W fun e w' => ∃ g vc vm, e = .returned (.tuple #[.pointer (some ⟨g, 0, none⟩), O Y 0]) ∧ Has w0 w' (L ++ [boxA g 146 (machC vc vm false 0 0), rowA 127 3 l.length vc (l.flatMap I3.enc)]) ∧ Below W.heap.size W w' ∧ vm.oneCell' = true := by
 refine (vmnew_any v l W h hl hE).mono ?_; rintro e w' ⟨g, vc, vm, rfl, hg, hr, hb, hgl, h1⟩; refine ⟨g, vc, vm, rfl, H.push2 hb [g] (ownL vc) (by simpa using hgl) (fun j hj => (LRow.lt hr j (mem_ownL.1 hj)).2.1) (fun j hj hj2 => ?_) ⟨rfl, hg⟩ ⟨rfl, Tm.LRow.low hr (Nat.zero_le _)⟩, hb, h1⟩; rw [List.mem_singleton] at hj; subst hj; obtain ⟨_, _, cur, hc⟩ := LRow.lt hr j (mem_ownL.1 hj2); rw [hg] at hc; injection hc with hc
 injection hc with _ hc _
 exact absurd hc (by decide)
section
def secE (p : Int × Int) : List Value := [O Y p.1, O Y p.2]
def sectF (l : List I3) (M : List Int) : List I3 → Nat → List (Int × Int) → List (Int × Int)
 | [], _, acc => acc
 | x :: r, k, acc => if x.o = 23 then sectF l M r (k + 1) (acc ++ [(x.a, wayV l M 201 (k + 1) (M.getD k 0).toNat + 1)]) else sectF l M r (k + 1) acc
def sectsP (l : List I3) : List (Int × Int) := sectF l (matchP l) l 0 []
theorem sectF_cons {l : List I3} {M : List Int} {k : Nat} {x : I3} (hx : l[k]? = some x) (acc : List (Int × Int)) : sectF l M (l.drop k) k acc = if x.o = 23 then sectF l M (l.drop (k + 1)) (k + 1) (acc ++ [(x.a, wayV l M 201 (k + 1) (M.getD k 0).toNat + 1)]) else sectF l M (l.drop (k + 1)) (k + 1) acc := by
 rw [drop_consT l k x hx, sectF]
theorem info103T : (Tryz.prog.info? 103).map (fun i => (i.zero, i.size, i.bytes)) = some (some (.agg #[O Y 0, O Y 0]), 2, 16) := by kernel_rfl
section
variable {ops : Array Oper} {o : Oper} {a : Act} {Q : Exit → Act → World → Prop} {K : Act → World → Prop}
theorem step_sec {W : World} {B : Nat} (hw : Region.wanted o (yielded ops a.tmps) = true) (s x : Operand) (ho : o.op = .call { callee := .builtin .append, args := #[s, x], argTypes := #[99, 99] })
 (v : Value) (L : List (Int × Int)) (p q : Int) (hs : a.eval s = v) (hx : a.eval x = .slice (some ⟨W.heap.size, 0, none⟩) 1 1) (HB : LRow W B 103 2 v L.length (L.flatMap secE)) (hbase : B ≤ W.heap.size) (hn : L.length ≤ 1000)
 (h : ∀ A1 c1 w1, LRow w1 B 103 2 (.slice A1 (L.length + 1) c1) (L.length + 1) ((L ++ [(p, q)]).flatMap secE) → Below B W w1 → K (a.put o.dst (.slice A1 (L.length + 1) c1)) w1) :
 if Region.wanted o (yielded ops a.tmps) = true then Oper.wp Tryz.prog o a (W.alloc (.cells #[O Y p, O Y q] 103)) K Q else K (a.put o.dst undef) (W.alloc (.cells #[O Y p, O Y q] 103)) := by
 have hk := alloc_keeps W (.cells #[O Y p, O Y q] 103); have h1' := LRow.keeps HB hk (by simp); refine step_append_loose (W.alloc (.cells #[O Y p, O Y q] 103)) B hw s x 99 103 _ 2 16 ho Tryz.underlying99 info103T rfl (by decide) (by decide) v L.length _ [O Y p, O Y q] (some ⟨W.heap.size, 0, none⟩) 1 1 hs hx rfl (by simp [Value.oneCell']) h1' (.inr ⟨_, rfl, fun j y hy => new_src W #[O Y p, O Y q] 103 j y hy⟩) (by simp; omega) (by omega) ?_; intro v1 w1 hrow hg hat
 obtain ⟨A1, c1, rfl, -⟩ := LRow.slice hrow; refine h A1 c1 w1 (by simpa [secE] using hrow) ?_; exact ((BR B W).alloc hbase _).grown hg (by simp; omega) (fun k hk => (LRow.lt h1' k hk).2.1)
end
theorem worst_ok {l : List I3} (h : (worstP l).2 = 0) : countE l = 0 := by
 unfold worstP at h; split at h
 · assumption
 · exact h
def ScRelC (w : World) (l : List I3) (vo vi : Value) (wr : World) : Prop := ∃ (k : Nat) (acc : List (Int × Int)), k ≤ l.length ∧ vi = O Y k ∧ LRow wr w.heap.size 103 2 vo acc.length (acc.flatMap secE) ∧ acc.length ≤ k ∧ sectsP l = sectF l (matchP l) (l.drop k) k acc ∧ Below w.heap.size w wr
theorem sections_any (v : Value) (l : List I3) (w : World) (h : CodeAt w v l) (hl : OkL l) : Calls Tryz.prog 33 #[v] w fun e w' => (∃ vs, e = .returned (.tuple #[vs, O Y (worstP l).2]) ∧ ((worstP l).2 = 0 → RowAt w' vs (sectsP l).length ((sectsP l).flatMap secE) ∧ (sectsP l).length ≤ 200) ∧ ((worstP l).2 ≠ 0 → vs = .slice none 0 0)) ∧ Below w.heap.size w w' := by
 obtain ⟨A, c, rfl, hc, _⟩ := id h; have hlen := hl.le; have hpos := hl.pos; obtain ⟨ad, rfl, -⟩ := h.cells 0 _ (GE hpos); have H0 := ZZ h; have hl0 := ZZ hl; have hWo := ZZ (worst_any _ l w h hl); clear h hl; by_cases hE : (worstP l).2 = 0
 · have hE1 := worst_ok hE; have hwo := ZZ (whole_ok hl0.out (count_whole hE1)); obtain ⟨r1, hr1⟩ : ∃ r1, (worstP l).1 = r1 := ⟨_, rfl⟩
   have hE2 := ZZ hE; rw [hr1, hE] at hWo; replace hE1 := ZZ hE1; replace hE := ZZ hE; replace hr1 := ZZ hr1; go_enter Tryz.func33, Tryz.ntmps33; go_wp2_with fail; refine hWo.out.mono ?_; rintro e w2 ⟨rfl, hb2⟩; have hb2' := ZZ hb2; have hC := count_any _ l 67 w2 (H0.out.step hb2) hl0.out; rw [hE1.out] at hC; replace hC := ZZ hC; clear hWo hb2; go_wp2_with fail; refine hC.out.mono ?_; rintro e w3 ⟨⟨r, rfl, -, hr⟩, hb3⟩; obtain ⟨vm, rfl, hAm⟩ := hr (by simp); unfold cntV; obtain ⟨gm, rfl, -⟩ := id hAm; have m3 := heap_alloc_last w3 (.cells #[.slice (some ad) l.length c, .slice (some ⟨gm, 0, none⟩) l.length l.length, .func (.func 67) #[] #[]] 160); have hK := (BR w3.heap.size w3).alloc (NR _) (.cells #[.slice (some ad) l.length c, .slice (some ⟨gm, 0, none⟩) l.length l.length, .func (.func 67) #[] #[]] 160); obtain ⟨W9, hW9⟩ : ∃ W9, w3.alloc (.cells #[.slice (some ad) l.length c, .slice (some ⟨gm, 0, none⟩) l.length l.length, .func (.func 67) #[] #[]] 160) = W9 := ⟨_, rfl⟩
   rw [hW9] at m3 hK; have hB9 := ZZ (hb2'.out.trans ((hb3.trans (hK.mono hb3.size)).mono hb2'.out.size)); obtain ⟨g6, hg6⟩ : ∃ g6, w3.heap.size = g6 := ⟨_, rfl⟩
   rw [hg6] at m3; have hAm9 := ZZ (hAm.step hK); replace m3 := ZZ m3; replace hg6 := ZZ hg6; replace hW9 := ZZ hW9; clear hK hAm hb3 hr hC; go_wp2_with fail; rw [hW9.out, hg6.out]; clear hW9 hg6; go_loopw [8, 26] (fun vo vi wr => ScRelC W9 l vo vi wr) (fun _ vi _ => l.length - (intOf vi).toNat); case atStart => exact ⟨0, [], by omega, rfl, LRow.nil _ _ _ _, by simp, rfl, BR _ _⟩
   case round =>
    obtain ⟨k, acc, hk, rfl, hR, hal, heq, hB⟩ := hrel; obtain ⟨Ar, co, rfl, -⟩ := LRow.slice hR; by_cases hd : k < l.length
    · obtain ⟨x, hx⟩ : ∃ x, l[k]? = some x := ⟨_, GE hd⟩
      have b1 : ((k : Nat) : Int) < (l.length : Int) := by omega
      have b2 : decide (l.length ≤ k) = false := decide_eq_false (by omega); have b3 : (k : Int) ≤ 200 := by omega
      have hBw := hB9.out.trans (hB.mono hB9.out.size); obtain ⟨ad2, hA2, c0, c1, c2⟩ := (H0.out.step hBw).cells k x hx; injection hA2 with hA2
      subst hA2; have al := (BR wr.heap.size wr).alloc (NR _) (.cells #[O Y x.o, O Y x.a, O Y x.b] 127); have hX : XAt (wr.alloc (.cells #[O Y x.o, O Y x.a, O Y x.b] 127)) wr.heap.size x := ⟨heap_alloc_last wr _⟩
      have y0 := bk hX.blk 0 (O Y x.o); have y1 := bk hX.blk 1 (O Y x.a); obtain ⟨W1, hW1⟩ : ∃ W1, wr.alloc (.cells #[O Y x.o, O Y x.a, O Y x.b] 127) = W1 := ⟨_, rfl⟩
      rw [hW1] at al hX y0 y1; replace heq := heq.trans (sectF_cons hx acc); have hR0 := LRow.step hR al; have hB0 := hB.trans (al.mono hB.size); by_cases h23 : x.o = 23
      · have g1 : (x.o == 23) = true := beq_iff_eq.mpr h23; rw [if_pos h23] at heq; rcases hwo.out.sc.cl k hd x hx (openI_21 (.inr h23)) with ⟨r, hr, _⟩ | ⟨j, h3, h4, h5, _⟩
        · cases hr
        · have h5 : (matchP l).getD k 0 = (j : Int) := h5; rw [h5, Int.toNat_natCast] at heq; have hBu := hB0.drew; have hBl := m3.out; have z0 := ((blk_cell ((hB0.block g6 (ltA hBl)).trans hBl) 0)).trans (rfl : _ = some (Value.slice (some ad) l.length c)); have z1 := ((blk_cell ((hB0.block g6 (ltA hBl)).trans hBl) 1)).trans (rfl : _ = some (Value.slice (some ⟨gm, 0, none⟩) l.length l.length)); have z2 := ((blk_cell ((hB0.block g6 (ltA hBl)).trans hBl) 2)).trans (rfl : _ = some (Value.func (.func 67) #[] #[])); have cm := (hAm9.out.step hB0).at k hd; rw [h5] at cm; have hWy := way_all l 67 (.inr rfl) hl0.out hwo.out 201 (k + 1) j W1.drew _ _ (H0.out.step (hBw.trans (al.drew.mono hBw.size))) (hAm9.out.step hBu) (.inr ⟨k, x, hx, openI_21 (.inr h23), rfl, h5⟩) (by omega); rw [show ((k + 1 : Nat) : Int) = (k : Int) + 1 by omega] at hWy; have hbd := wayV_bd hl0.out (matchP l) 201 (k + 1) j; generalize wayV l (matchP l) 201 (k + 1) j = wv at *; have hR1 := ZZ (LRow.step hR0 (BR _ _).drew); have hB1 := ZZ hBu; replace heq := ZZ heq; replace hWy := ZZ hWy; replace hX := ZZ hX; have hal2 := ZZ hal; replace hal := ZZ (show acc.length ≤ 200 by omega); have b9 : wrap64 ((k : Int) + 1) = (k : Int) + 1 := wrapIn (by omega); have b10 : wrap64 (wv + 1) = wv + 1 := wrapIn (by clear b9; omega); replace h23 := ZZ h23; replace hd := ZZ hd; clear hx h3 h4 h5 hBu hBl hB0 hR0 hR hB al hBw hk hbd; go_wp2_with fail; refine st 17 (S := fun w' => w'.cell? ⟨wr.heap.size, 1, none⟩ = some (O Y x.a) ∧ w'.cell? ⟨g6, 0, none⟩ = some (.slice (some ad) l.length c) ∧ w'.cell? ⟨g6, 1, none⟩ = some (.slice (some ⟨gm, 0, none⟩) l.length l.length) ∧ w'.cell? ⟨g6, 2, none⟩ = some (.func (.func 67) #[] #[]) ∧ w'.cell? ⟨gm, k, none⟩ = some (O Y (j : Int))) (ds := [14, 15]) ⟨y1, z0, z1, z2, cm⟩ (fun hHeld => ?_); generalize W1.drew = u0 at *; refine pq 0 ?_; refine pq 1 ?_; refine pq 4 ?_; refine pq 5 ?_ (v := O Y ((k : Int) + 1)) (hy := by intro w'; go_simp; all_goals simp only [i64_w, b9]); refine pq 6 ?_; refine pq 8 ?_; refine tk 2 hHeld ?_; refine tk 3 hHeld ?_; refine tk 7 hHeld ?_; refine pq 9 ?_; refine tk 10 hHeld ?_; refine rg1 11 (fun K hK => ?_); refine goes_ Tryz.func68 (by kernel_rfl) rfl #[_, _, _] (by rfl) rfl rfl (by (try simp only [MA, List.map_cons, List.map_nil]); first | done | rfl) ?_; refine (hWy.out).mono ?_; rintro e w5 ⟨rfl, hb2⟩; refine ⟨_, rfl, ?_⟩; have hB5 := ZZ (hB1.out.trans (hb2.mono hB1.out.size)); have hR5 := ZZ (LRow.step hR1.out hb2); refine hK.out _ _ ⟨cell_keep hb2 (NR _) hHeld.1, cell_keep hb2 (NR _) hHeld.2.1, cell_keep hb2 (NR _) hHeld.2.2.1, cell_keep hb2 (NR _) hHeld.2.2.2.1, cell_keep hb2 (NR _) hHeld.2.2.2.2⟩ (fun hHeld => ?_); clear hK K; refine nm ?_; refine pq 12 ?_ (v := O Y (wv + 1)) (hy := by intro w'; go_simp; all_goals simp only [i64_w, b10]); refine pq 13 ?_; refine rg2 14 (fun K hK => ?_); refine value_ (w1 := ?_) (v := ?_) (by rfl) rfl ?_ ?_; rotate_left 2
          · go_simp; constructor
            · rfl
            · rfl
          refine hK.out _ _ ?_; clear hK K; refine nm ?_; refine rg2 15 (fun K hK => ?_); refine step_sec (W := w5) (B := W9.heap.size) (by rfl) (.tmp 34) (.tmp 48) rfl (.slice Ar acc.length co) acc x.a (wv + 1) rfl rfl hR5.out hB5.out.size (by have := hal.out; omega) ?_; intro A1 c1' w6 hR6 hb6; replace hR6 := ZZ hR6; have hB6 := ZZ (hB5.out.trans hb6); clear hb6; refine hK.out _ _ ?_; clear hK K; refine nm ?_; refine pq 16 ?_; refine dn ?_; clear y0 y1 z0 z1 z2 cm hHeld hb2 b9 b10 c0 c1 c2; go_wp2_with fail; exact ⟨⟨k + 1, _, hd.out, by go_num, by simpa using hR6.out, by simp; have := hal2.out; omega, heq.out, hB6.out⟩, by have := hd.out; simp [intOf]; omega⟩
      · have g1 : (x.o == 23) = false := beq_eq_false_iff_ne.mpr h23; rw [if_neg h23] at heq; replace heq := ZZ heq; replace h23 := ZZ h23; replace hR0 := ZZ hR0; replace hB0 := ZZ hB0; replace hd := ZZ hd; clear hx hX hR hB al hBw; go_wp2_with fail; exact ⟨⟨k + 1, acc, hd.out, by go_num, hR0.out, by omega, heq.out, hB0.out⟩, by have := hd.out; simp [intOf]; omega⟩
    · have b1 : ¬ (((k : Nat) : Int) < (l.length : Int)) := by omega
      have hke : k = l.length := by omega
      subst hke; rw [List.drop_length, sectF] at heq; have hrow := LRow.rowAt hR (by omega); replace hrow := ZZ hrow; have hB2 := ZZ (hB9.out.trans (hB.mono hB9.out.size)); replace heq := ZZ heq; replace hal := ZZ hal; clear hk hd hR hB; go_wp2_with fail; refine bodyPost_ret (results_tmp2 rfl _ _ _) rfl ?_; exact ⟨⟨_, by rw [hE2.out]; rfl, fun _ => by rw [heq.out]; exact ⟨hrow.out, by have := hal.out; omega⟩, fun h => absurd hE2.out h⟩, hB2.out⟩
 · have f1 : ((worstP l).2 != 0) = true := bne_iff_ne.mpr hE; obtain ⟨r1, r2, hr⟩ : ∃ r1 r2, worstP l = (r1, r2) := ⟨_, _, rfl⟩
   rw [hr] at hWo hE f1; dsimp only at hWo hE f1; replace hr := ZZ hr; replace hE := ZZ hE; go_enter Tryz.func33, Tryz.ntmps33; go_wp2_with fail; refine hWo.out.mono ?_; rintro e w2 ⟨rfl, hb2⟩; replace hb2 := ZZ hb2; go_wp2_with fail; refine bodyPost_ret (results_tmp2 rfl _ _ _) rfl ?_; exact ⟨⟨_, by rw [hr.out]; rfl, fun h => absurd (by rw [hr.out] at h; exact h) hE.out, fun _ => rfl⟩, hb2.out⟩
end
def JobAt (W : World) (v : Value) (t : TaskD) (im : ImageD) : Prop := ∃ Ab Ao Ac As Ak At cb co cc cs ck ct, v = .agg #[O Y t.prio, O Y t.period, O Y t.deadline, O Y t.jitter, .slice Ab t.blocks.length cb, .slice Ao t.outs.length co, .slice Ac t.code.length cc, O Y im.sw, O Y im.la, O Y im.co, O Y im.inp, .slice As im.safe.length cs, .slice Ak im.blocks.length ck, .slice At im.tasks.length ct] ∧ IntsAt W (.slice Ab t.blocks.length cb) t.blocks ∧ IntsAt W (.slice Ao t.outs.length co) t.outs ∧ CodeAt W (.slice Ac t.code.length cc) t.code ∧ IntsAt W (.slice As im.safe.length cs) im.safe ∧ RowsAt W (.slice Ak im.blocks.length ck) im.blocks ∧ TasksAt W (.slice At im.tasks.length ct) im.tasks
theorem JobAt.step {W W1 : World} {v : Value} {t : TaskD} {im : ImageD} (h : JobAt W v t im) (hb : Below W.heap.size W W1) : JobAt W1 v t im := by
 obtain ⟨Ab, Ao, Ac, As, Ak, At, cb, co, cc, cs, ck, ct, e, h1, h2, h3, h4, h5, h6⟩ := h; exact ⟨Ab, Ao, Ac, As, Ak, At, cb, co, cc, cs, ck, ct, e, h1.step hb, h2.step hb, h3.step hb, h4.step hb, h5.step hb, h6.step hb⟩
theorem steps_any (v : Value) (t : TaskD) (im : ImageD) (w : World) (h : JobAt w v t im) (hl : OkL t.code) : Calls Tryz.prog 63 #[v] w fun e w' => e = .returned (O Y (worstP t.code).2) ∧ Below w.heap.size w w' := by
 obtain ⟨Ab, Ao, Ac, As, Ak, At, cb, co, cc, cs, ck, ct, rfl, h1, h2, h3, h4, h5, h6⟩ := h; have hbl := heap_alloc_last w (.cells #[O Y t.prio, O Y t.period, O Y t.deadline, O Y t.jitter, .slice Ab t.blocks.length cb, .slice Ao t.outs.length co, .slice Ac t.code.length cc, O Y im.sw, O Y im.la, O Y im.co, O Y im.inp, .slice As im.safe.length cs, .slice Ak im.blocks.length ck, .slice At im.tasks.length ct] 154); have al := (BR w.heap.size w).alloc (NR _) (.cells #[O Y t.prio, O Y t.period, O Y t.deadline, O Y t.jitter, .slice Ab t.blocks.length cb, .slice Ao t.outs.length co, .slice Ac t.code.length cc, O Y im.sw, O Y im.la, O Y im.co, O Y im.inp, .slice As im.safe.length cs, .slice Ak im.blocks.length ck, .slice At im.tasks.length ct] 154); obtain ⟨W1, hW1⟩ : ∃ W1, w.alloc (.cells #[O Y t.prio, O Y t.period, O Y t.deadline, O Y t.jitter, .slice Ab t.blocks.length cb, .slice Ao t.outs.length co, .slice Ac t.code.length cc, O Y im.sw, O Y im.la, O Y im.co, O Y im.inp, .slice As im.safe.length cs, .slice Ak im.blocks.length ck, .slice At im.tasks.length ct] 154) = W1 := ⟨_, rfl⟩
 rw [hW1] at hbl al; have c6 := bk hbl 6 (.slice Ac t.code.length cc); have hWo := worst_any _ t.code W1 (h3.step al) hl; obtain ⟨r1, r2, hr⟩ : ∃ r1 r2, worstP t.code = (r1, r2) := ⟨_, _, rfl⟩
 rw [hr] at hWo ⊢; replace hWo := ZZ hWo; replace al := ZZ al; clear h1 h2 h3 h4 h5 h6 hl hbl hr; go_enter Tryz.func63, Tryz.ntmps63; go_wp2_with fail; refine hWo.out.mono ?_; rintro e w2 ⟨rfl, hb2⟩; have hB := ZZ (al.out.trans (hb2.mono al.out.size)); clear hb2 hWo; go_wp2_with fail; go_ret; exact ⟨rfl, hB.out⟩
theorem eqL_next {l m : List Int} {k : Nat} {x y : Int} (hx : l[k]? = some x) (hy : m[k]? = some y) : (l.drop k = m.drop k) ↔ (x = y ∧ l.drop (k + 1) = m.drop (k + 1)) := by
 have h1 : k < l.length := (GI.1 hx).1; have h2 : k < m.length := (GI.1 hy).1; rw [List.drop_eq_getElem_cons h1, List.drop_eq_getElem_cons h2, List.cons.injEq]; rw [GE h1] at hx; rw [GE h2] at hy; injection hx with hx
 injection hy with hy
 rw [hx, hy]
def jblkE (t : TaskD) : Int := if locksE t.code = 0 then (if locksO t.code = t.blocks then 0 else 11) else locksE t.code
def JbRel (w : World) (l m : List Int) (vi : Value) (wr : World) : Prop := ∃ k : Nat, k ≤ l.length ∧ vi = O Y k ∧ (l = m ↔ l.drop k = m.drop k) ∧ Below w.heap.size w wr
theorem jblocks_any (v : Value) (t : TaskD) (im : ImageD) (w : World) (h : JobAt w v t im) (hl : OkL t.code) (hbl8 : t.blocks.length ≤ 1000) : Calls Tryz.prog 64 #[v] w fun e w' => e = .returned (O Y (jblkE t)) ∧ Below w.heap.size w w' := by
 obtain ⟨Ab, Ao, Ac, As, Ak, At, cb, co, cc, cs, ck, ct, rfl, h1, h2, h3, h4, h5, h6⟩ := h; have hbl := heap_alloc_last w (.cells #[O Y t.prio, O Y t.period, O Y t.deadline, O Y t.jitter, .slice Ab t.blocks.length cb, .slice Ao t.outs.length co, .slice Ac t.code.length cc, O Y im.sw, O Y im.la, O Y im.co, O Y im.inp, .slice As im.safe.length cs, .slice Ak im.blocks.length ck, .slice At im.tasks.length ct] 154); have al := (BR w.heap.size w).alloc (NR _) (.cells #[O Y t.prio, O Y t.period, O Y t.deadline, O Y t.jitter, .slice Ab t.blocks.length cb, .slice Ao t.outs.length co, .slice Ac t.code.length cc, O Y im.sw, O Y im.la, O Y im.co, O Y im.inp, .slice As im.safe.length cs, .slice Ak im.blocks.length ck, .slice At im.tasks.length ct] 154); obtain ⟨W1, hW1⟩ : ∃ W1, w.alloc (.cells #[O Y t.prio, O Y t.period, O Y t.deadline, O Y t.jitter, .slice Ab t.blocks.length cb, .slice Ao t.outs.length co, .slice Ac t.code.length cc, O Y im.sw, O Y im.la, O Y im.co, O Y im.inp, .slice As im.safe.length cs, .slice Ak im.blocks.length ck, .slice At im.tasks.length ct] 154) = W1 := ⟨_, rfl⟩
 rw [hW1] at hbl al; have c6 := bk hbl 6 (.slice Ac t.code.length cc); have hLk := ZZ (locks_any _ t.code W1 (h3.step al) hl); have H1 := ZZ (h1.step al); replace al := ZZ al; replace hbl := ZZ hbl; clear h1 h2 h3 h4 h5 h6 hl; go_enter Tryz.func64, Tryz.ntmps64; go_wp2_with fail; refine hLk.out.mono ?_; rintro e w2 ⟨vo, rfl, hvo, hb2⟩; have hB := ZZ (al.out.trans (hb2.mono al.out.size)); have H2 := ZZ (H1.out.step hb2); have hbl2 := ZZ ((hb2.block _ (ltA hbl.out)).trans hbl.out); clear hb2 hLk c6; by_cases hE : locksE t.code = 0
 · have hP := (show jblkE t = if locksO t.code = t.blocks then 0 else 11 from if_pos hE)
   rw [hE]; replace hE := ZZ hE; generalize locksO t.code = lo at *; obtain ⟨Av, cv, rfl, hcv, hln, -⟩ := id hvo; have c4 := bk hbl2.out 4 (.slice Ab t.blocks.length cb); replace hvo := ZZ hvo; by_cases hlen : lo.length = t.blocks.length
   · have g1 : ((lo.length : Int) != (t.blocks.length : Int)) = false := by rw [hlen]; simp
     replace hP := ZZ hP; have hlen2 := ZZ hlen; have hlo : lo.length ≤ 1000 := by omega
     replace hlen := ZZ hlen; go_wp2_with fail; go_loopw [26] (fun vi wr => JbRel w2 lo t.blocks vi wr) (fun vi _ => lo.length - (intOf vi).toNat); case atStart => exact ⟨0, by omega, rfl, by simp, BR _ _⟩
     case round =>
      obtain ⟨k, hk, rfl, heq, hb⟩ := hrel; have c4 := cell_keep hb (NR _) c4; by_cases hd : k < lo.length
      · have b1 : ((k : Nat) : Int) < (lo.length : Int) := by omega
        have b2 : decide (lo.length ≤ k) = false := decide_eq_false (by omega); have hlx := hlen2.out; have b3 : ((k : Nat) : Int) < (t.blocks.length : Int) := by omega
        have b4 : decide (t.blocks.length ≤ k) = false := decide_eq_false (by omega); have b5 : (k : Int) ≤ 1000 := by omega
        obtain ⟨x, hx⟩ : ∃ x, lo[k]? = some x := ⟨_, GE hd⟩
        obtain ⟨y, hy⟩ : ∃ y, t.blocks[k]? = some y := ⟨_, GE (by omega)⟩
        obtain ⟨ad1, rfl, q1⟩ := (hvo.out.step hb).at k x hx; obtain ⟨ad2, rfl, q2⟩ := (H2.out.step hb).at k y hy; have hn := heq.trans (eqL_next hx hy); by_cases hxy : x = y
        · have g2 : (x != y) = false := by rw [hxy]; simp
          have hn2 := ZZ (hn.trans (and_iff_right hxy)); replace hxy := ZZ hxy; replace hb := ZZ hb; replace hd := ZZ hd; clear hx hy heq hn hk hlx; go_wp2_with fail; exact ⟨⟨k + 1, hd.out, by go_num, hn2.out, hb.out⟩, by have := hd.out; simp [intOf]; omega⟩
        · have g2 : (x != y) = true := bne_iff_ne.mpr hxy; have hne : lo ≠ t.blocks := fun e => hxy (hn.1 e).1; replace hP := ZZ (hP.out.trans (if_neg hne)); replace hxy := ZZ hxy; replace hne := ZZ hne; replace hb := ZZ hb; clear hx hy heq hn hk hlx hd; go_wp2_with fail; go_ret; exact ⟨by rw [hP.out]; rfl, hB.out.trans (hb.out.mono hB.out.size)⟩
      · have b1 : ¬ (((k : Nat) : Int) < (lo.length : Int)) := by omega
        have hlx := hlen2.out; have he : lo = t.blocks := heq.2 (by rw [List.drop_of_length_le (by omega), List.drop_of_length_le (by omega)]); replace hP := ZZ (hP.out.trans (if_pos he)); replace he := ZZ he; replace hb := ZZ hb; clear heq hlx hk hd; go_wp2_with fail; go_ret; exact ⟨by rw [hP.out]; rfl, hB.out.trans (hb.out.mono hB.out.size)⟩
   · have g1 : ((lo.length : Int) != (t.blocks.length : Int)) = true := bne_iff_ne.mpr (by omega); replace hP := ZZ (hP.trans (if_neg (fun e => hlen (by rw [e])))); replace hlen := ZZ hlen; go_wp2_with fail; go_ret; exact ⟨by rw [hP.out]; rfl, hB.out⟩
 · have f1 : (locksE t.code != 0) = true := bne_iff_ne.mpr hE; have hP := ZZ (show jblkE t = locksE t.code from if_neg hE); generalize locksE t.code = le at *; replace hE := ZZ hE; replace hvo := ZZ hvo; go_wp2_with fail; go_ret; exact ⟨by rw [hP.out]; rfl, hB.out⟩
def OwRel (w : World) (l : List Int) (p : Int) (vi : Value) (wr : World) : Prop := ∃ k : Nat, k ≤ l.length ∧ vi = O Y k ∧ (p ∈ l ↔ p ∈ l.drop k) ∧ wr = w
theorem memL_next {l : List Int} {k : Nat} {x p : Int} (hx : l[k]? = some x) : p ∈ l.drop k ↔ (p = x ∨ p ∈ l.drop (k + 1)) := by
 have h1 : k < l.length := (GI.1 hx).1; rw [List.drop_eq_getElem_cons h1, List.mem_cons]; rw [GE h1] at hx; injection hx with hx
 rw [hx]
theorem owns_any (v : Value) (t : TaskD) (im : ImageD) (p : Int) (w : World) (h : JobAt w v t im) (hol : t.outs.length ≤ 1000) : Calls Tryz.prog 110 #[v, O Y p] w fun e w' => e = .returned (.bool (decide (p ∈ t.outs))) ∧ Below w.heap.size w w' := by
 obtain ⟨Ab, Ao, Ac, As, Ak, At, cb, co, cc, cs, ck, ct, rfl, h1, h2, h3, h4, h5, h6⟩ := id h; have hbl := heap_alloc_last w (.cells #[O Y t.prio, O Y t.period, O Y t.deadline, O Y t.jitter, .slice Ab t.blocks.length cb, .slice Ao t.outs.length co, .slice Ac t.code.length cc, O Y im.sw, O Y im.la, O Y im.co, O Y im.inp, .slice As im.safe.length cs, .slice Ak im.blocks.length ck, .slice At im.tasks.length ct] 154); have al := (BR w.heap.size w).alloc (NR _) (.cells #[O Y t.prio, O Y t.period, O Y t.deadline, O Y t.jitter, .slice Ab t.blocks.length cb, .slice Ao t.outs.length co, .slice Ac t.code.length cc, O Y im.sw, O Y im.la, O Y im.co, O Y im.inp, .slice As im.safe.length cs, .slice Ak im.blocks.length ck, .slice At im.tasks.length ct] 154); obtain ⟨W1, hW1⟩ : ∃ W1, w.alloc (.cells #[O Y t.prio, O Y t.period, O Y t.deadline, O Y t.jitter, .slice Ab t.blocks.length cb, .slice Ao t.outs.length co, .slice Ac t.code.length cc, O Y im.sw, O Y im.la, O Y im.co, O Y im.inp, .slice As im.safe.length cs, .slice Ak im.blocks.length ck, .slice At im.tasks.length ct] 154) = W1 := ⟨_, rfl⟩
 rw [hW1] at hbl al; have c5 := bk hbl 5 (.slice Ao t.outs.length co); have H2 := ZZ (h2.step al); replace al := ZZ al; replace hbl := ZZ hbl; clear h1 h2 h3 h4 h5 h6 h; go_enter Tryz.func110, Tryz.ntmps110; go_wp2_with fail; go_loopw [11] (fun vi wr => OwRel W1 t.outs p vi wr) (fun vi _ => t.outs.length - (intOf vi).toNat); case atStart => exact ⟨0, by omega, rfl, by simp, rfl⟩
 case round =>
  obtain ⟨k, hk, rfl, heq, rfl⟩ := hrel; by_cases hd : k < t.outs.length
  · have b1 : ((k : Nat) : Int) < (t.outs.length : Int) := by omega
    have b2 : decide (t.outs.length ≤ k) = false := decide_eq_false (by omega); have b5 : (k : Int) ≤ 1000 := by omega
    obtain ⟨x, hx⟩ : ∃ x, t.outs[k]? = some x := ⟨_, GE hd⟩
    obtain ⟨ad1, rfl, q1⟩ := H2.out.at k x hx; replace heq := heq.trans (memL_next hx); by_cases hxp : x = p
    · have g1 : (x == p) = true := beq_iff_eq.mpr hxp; have hP := ZZ (show decide (p ∈ t.outs) = true from decide_eq_true (heq.2 (.inl hxp.symm))); replace hxp := ZZ hxp; clear heq hx hd hk; go_wp2_with fail; go_ret; exact ⟨by rw [hP.out]; rfl, al.out⟩
    · have g1 : (x == p) = false := beq_eq_false_iff_ne.mpr hxp; replace heq := ZZ (heq.trans (or_iff_right (fun e => hxp e.symm))); replace hxp := ZZ hxp; replace hd := ZZ hd; clear hx hk; go_wp2_with fail; exact ⟨⟨k + 1, hd.out, by go_num, heq.out, rfl⟩, by have := hd.out; simp [intOf]; omega⟩
  · have b1 : ¬ (((k : Nat) : Int) < (t.outs.length : Int)) := by omega
    have hP := ZZ (show decide (p ∈ t.outs) = false from decide_eq_false (fun hm => by rw [heq, List.drop_of_length_le (by omega)] at hm; cases hm)); clear heq hd hk; go_wp2_with fail; go_ret; exact ⟨by rw [hP.out]; rfl, al.out⟩
def nameOk (t : TaskD) (im : ImageD) (x : I3) : Bool := if x.o = 15 then decide (x.a < im.inp) else if x.o = 16 then decide (x.a ∈ t.outs) else if x.o = 17 ∨ x.o = 18 then decide (x.b < ((im.blocks.getD x.a.toNat []).length : Int)) else true
def namesE (t : TaskD) (im : ImageD) : Int := if t.code.all (nameOk t im) = true then 0 else 12
def NmRel (w : World) (t : TaskD) (im : ImageD) (vi : Value) (wr : World) : Prop := ∃ k : Nat, k ≤ t.code.length ∧ vi = O Y k ∧ t.code.all (nameOk t im) = (t.code.drop k).all (nameOk t im) ∧ Below w.heap.size w wr
theorem all_drop {l : List I3} {k : Nat} {x : I3} {f : I3 → Bool} (hx : l[k]? = some x) : (l.drop k).all f = (f x && (l.drop (k + 1)).all f) := by rw [drop_consT l k x hx, List.all_cons]
theorem RowsAt.inner {W : World} {A : Option Addr} {n c : Nat} {L : List (List Int)} (h : RowsAt W (.slice A n c) L) (j : Nat) (l : List Int) (hj : L[j]? = some l) : ∃ ad Au cu, A = some ad ∧ W.cell? (ad.add j) = some (.slice Au l.length cu) ∧ IntsAt W (.slice Au l.length cu) l := by
 obtain ⟨A', c', e, _, h2⟩ := h; injection e with e1 e2 e3
 subst e1; obtain ⟨ad, u, h3, h4, h5⟩ := h2 j l hj; obtain ⟨Au, cu, rfl, _⟩ := id h5; exact ⟨ad, Au, cu, h3, h4, h5⟩
theorem names_any (v : Value) (t : TaskD) (im : ImageD) (w : World) (h : JobAt w v t im) (hl : OkL t.code) (hol : t.outs.length ≤ 1000) (hA : ∀ x ∈ t.code, x.o = 17 ∨ x.o = 18 → 0 ≤ x.a ∧ x.a.toNat < im.blocks.length) : Calls Tryz.prog 65 #[v] w fun e w' => e = .returned (O Y (namesE t im)) ∧ Below w.heap.size w w' := by
 obtain ⟨Ab, Ao, Ac, As, Ak, At, cb, co, cc, cs, ck, ct, rfl, h1, h2, h3, h4, h5, h6⟩ := id h; have hbl := heap_alloc_last w (.cells #[O Y t.prio, O Y t.period, O Y t.deadline, O Y t.jitter, .slice Ab t.blocks.length cb, .slice Ao t.outs.length co, .slice Ac t.code.length cc, O Y im.sw, O Y im.la, O Y im.co, O Y im.inp, .slice As im.safe.length cs, .slice Ak im.blocks.length ck, .slice At im.tasks.length ct] 154); have al := (BR w.heap.size w).alloc (NR _) (.cells #[O Y t.prio, O Y t.period, O Y t.deadline, O Y t.jitter, .slice Ab t.blocks.length cb, .slice Ao t.outs.length co, .slice Ac t.code.length cc, O Y im.sw, O Y im.la, O Y im.co, O Y im.inp, .slice As im.safe.length cs, .slice Ak im.blocks.length ck, .slice At im.tasks.length ct] 154); obtain ⟨W1, hW1⟩ : ∃ W1, w.alloc (.cells #[O Y t.prio, O Y t.period, O Y t.deadline, O Y t.jitter, .slice Ab t.blocks.length cb, .slice Ao t.outs.length co, .slice Ac t.code.length cc, O Y im.sw, O Y im.la, O Y im.co, O Y im.inp, .slice As im.safe.length cs, .slice Ak im.blocks.length ck, .slice At im.tasks.length ct] 154) = W1 := ⟨_, rfl⟩
 rw [hW1] at hbl al; have c0 := bk hbl 0 (O Y t.prio); have c1 := bk hbl 1 (O Y t.period); have c2 := bk hbl 2 (O Y t.deadline); have c3 := bk hbl 3 (O Y t.jitter); have c4 := bk hbl 4 (.slice Ab t.blocks.length cb); have c5 := bk hbl 5 (.slice Ao t.outs.length co); have c6 := bk hbl 6 (.slice Ac t.code.length cc); have c7 := bk hbl 7 (O Y im.sw); have c8 := bk hbl 8 (O Y im.la); have c9 := bk hbl 9 (O Y im.co); have c10 := bk hbl 10 (O Y im.inp); have c11 := bk hbl 11 (.slice As im.safe.length cs); have c12 := bk hbl 12 (.slice Ak im.blocks.length ck); have c13 := bk hbl 13 (.slice At im.tasks.length ct); have H3 := ZZ (h3.step al); have H5 := ZZ (h5.step al); have HJ := ZZ (h.step al); have hlen := hl.le; replace hl := ZZ hl; replace al := ZZ al; replace hbl := ZZ hbl; replace hA := ZZ hA; clear h1 h2 h3 h4 h5 h6 h; go_enter Tryz.func65, Tryz.ntmps65; go_wp2_with fail; go_loopw [10] (fun vi wr => NmRel W1 t im vi wr) (fun vi _ => t.code.length - (intOf vi).toNat); case atStart => exact ⟨0, by omega, rfl, by simp, BR _ _⟩
 case round =>
  obtain ⟨k, hk, rfl, heq, hb⟩ := hrel; by_cases hd : k < t.code.length
  · have b1 : ((k : Nat) : Int) < (t.code.length : Int) := by omega
    have b2 : decide (t.code.length ≤ k) = false := decide_eq_false (by omega); have b5 : (k : Int) ≤ 200 := by omega
    obtain ⟨x, hx⟩ : ∃ x, t.code[k]? = some x := ⟨_, GE hd⟩
    obtain ⟨ad1, rfl, c0', c1', c2'⟩ := (H3.out.step hb).cells k x hx; replace heq := heq.trans (all_drop hx); have hxm := LM hx; have hxm2 := hl.out.all x hxm; have al2 := (BR wr.heap.size wr).alloc (NR _) (.cells #[O Y x.o, O Y x.a, O Y x.b] 127); have hX : XAt (wr.alloc (.cells #[O Y x.o, O Y x.a, O Y x.b] 127)) wr.heap.size x := ⟨heap_alloc_last wr _⟩
    have y0 := bk hX.blk 0 (O Y x.o); have y1 := bk hX.blk 1 (O Y x.a); have y2 := bk hX.blk 2 (O Y x.b); obtain ⟨W2, hW2⟩ : ∃ W2, wr.alloc (.cells #[O Y x.o, O Y x.a, O Y x.b] 127) = W2 := ⟨_, rfl⟩
    rw [hW2] at y0 y1 y2 al2; have hB2 := hb.trans (al2.mono hb.size); have hB2d := hB2.drew; have hbl2 := (hB2.block _ (ltA hbl.out)).trans hbl.out; clear c0 c1 c2 c3 c4 c5 c6 c7 c8 c9 c10 c11 c12 c13; have c0 := bk hbl2 0 (O Y t.prio); have c1 := bk hbl2 1 (O Y t.period); have c2 := bk hbl2 2 (O Y t.deadline); have c3 := bk hbl2 3 (O Y t.jitter); have c4 := bk hbl2 4 (.slice Ab t.blocks.length cb); have c5 := bk hbl2 5 (.slice Ao t.outs.length co); have c6 := bk hbl2 6 (.slice (some ad1) t.code.length cc); have c7 := bk hbl2 7 (O Y im.sw); have c8 := bk hbl2 8 (O Y im.la); have c9 := bk hbl2 9 (O Y im.co); have c10 := bk hbl2 10 (O Y im.inp); have c11 := bk hbl2 11 (.slice As im.safe.length cs); have c12 := bk hbl2 12 (.slice Ak im.blocks.length ck); have c13 := bk hbl2 13 (.slice At im.tasks.length ct); replace hB2 := ZZ hB2; replace hd := ZZ hd; clear hx hX hk hb al2 hbl2; by_cases h15 : x.o = 15
    · have g1 : (x.o == 15) = true := beq_iff_eq.mpr h15; rw [show nameOk t im x = decide (x.a < im.inp) by unfold nameOk; rw [if_pos h15]] at heq; replace h15 := ZZ h15; clear hB2d hxm hxm2; cases hq : decide (x.a < im.inp)
      · rw [hq, Bool.false_and] at heq; have hP := ZZ (show namesE t im = 12 by unfold namesE; rw [heq]; exact if_neg (by simp)); clear heq; go_wp2_with fail; go_ret; exact ⟨by rw [hP.out]; rfl, al.out.trans (Below.mono hB2.out al.out.size)⟩
      · rw [hq, Bool.true_and] at heq; replace heq := ZZ heq; go_wp2_with fail; exact ⟨⟨k + 1, hd.out, by go_num, heq.out, hB2.out⟩, by have := hd.out; simp [intOf]; omega⟩
    · have g1 : (x.o == 15) = false := beq_eq_false_iff_ne.mpr h15; by_cases h16 : x.o = 16
      · have g2 : (x.o == 16) = true := beq_iff_eq.mpr h16; rw [show nameOk t im x = decide (x.a ∈ t.outs) by unfold nameOk; rw [if_neg h15, if_pos h16]] at heq; have hOw := ZZ (owns_any _ t im x.a W2 (HJ.out.step hB2.out) hol); replace h15 := ZZ h15; replace h16 := ZZ h16; clear hB2d hxm hxm2; cases hq : decide (x.a ∈ t.outs)
        · rw [hq, Bool.false_and] at heq; have hP := ZZ (show namesE t im = 12 by unfold namesE; rw [heq]; exact if_neg (by simp)); clear heq; rw [hq] at hOw; go_wp2_with fail; refine hOw.out.mono ?_; rintro e w5 ⟨rfl, hb5⟩; have hB5 := ZZ (hB2.out.trans (hb5.mono hB2.out.size)); clear hOw hb5; go_wp2_with fail; go_ret; exact ⟨by rw [hP.out]; rfl, al.out.trans (Below.mono hB5.out al.out.size)⟩
        · rw [hq, Bool.true_and] at heq; replace heq := ZZ heq; rw [hq] at hOw; go_wp2_with fail; refine hOw.out.mono ?_; rintro e w5 ⟨rfl, hb5⟩; have hB5 := ZZ (hB2.out.trans (hb5.mono hB2.out.size)); clear hOw hb5; go_wp2_with fail; exact ⟨⟨k + 1, hd.out, by go_num, heq.out, hB5.out⟩, by have := hd.out; simp [intOf]; omega⟩
      · have g2 : (x.o == 16) = false := beq_eq_false_iff_ne.mpr h16; by_cases h17 : x.o = 17
        · have g3 : (x.o == 17) = true := beq_iff_eq.mpr h17; replace h17 := ZZ h17; rw [show nameOk t im x = decide (x.b < ((im.blocks.getD x.a.toNat []).length : Int)) by unfold nameOk; rw [if_neg h15, if_neg h16, if_pos (.inl h17.out)]] at heq; obtain ⟨ha1, ha2⟩ := hA.out x hxm (.inl h17.out); obtain ⟨q, hq2⟩ : ∃ q : Nat, x.a = (q : Int) := ⟨x.a.toNat, by omega⟩
          rw [hq2] at ha1 ha2 heq c1' y1; rw [Int.toNat_natCast] at ha2 heq; rw [hq2] at hW2; obtain ⟨bl, hblk⟩ : ∃ bl, im.blocks[q]? = some bl := ⟨_, GE ha2⟩
          rw [GD, hblk, Option.getD_some] at heq; obtain ⟨ad3, Au, cu, rfl, cq, -⟩ := (H5.out.step hB2d).inner q bl hblk; have d3 : ((q : Nat) : Int) < (im.blocks.length : Int) := by omega
          have d4 : decide (im.blocks.length ≤ q) = false := decide_eq_false (by omega); have y2' := y2; have hB3 := ZZ hB2d; replace h15 := ZZ h15; replace h16 := ZZ h16; replace hq2 := ZZ hq2; clear hblk ha1 ha2 hxm hxm2; cases hq : decide (x.b < (bl.length : Int))
          · rw [hq, Bool.false_and] at heq; have hP := ZZ (show namesE t im = 12 by unfold namesE; rw [heq]; exact if_neg (by simp)); clear heq; go_wp2_with fail; refine st 12 (S := fun w' => w'.cell? ⟨wr.heap.size, 2, none⟩ = some (O Y x.b) ∧ w'.cell? ⟨w.heap.size, 12, none⟩ = some (.slice (some ad3) im.blocks.length ck) ∧ w'.cell? ⟨wr.heap.size, 1, none⟩ = some (O Y (q : Int)) ∧ w'.cell? (ad3.add q) = some (.slice Au bl.length cu)) (ds := []) ⟨y2, c12, y1, cq⟩ (fun hHeld => ?_); generalize W2.drew = u0 at *; refine pq 0 ?_; refine pq 2 ?_; refine pq 3 ?_; refine pq 5 ?_; refine tk 1 hHeld ?_; refine tk 4 hHeld ?_; refine tk 6 hHeld ?_; refine pq 7 ?_; refine tk 8 hHeld ?_; refine pq 9 ?_; refine pq 10 ?_; refine pq 11 ?_; refine dn ?_; clear hHeld y0 y1 y2 y2' cq; go_wp2_with fail; go_ret; exact ⟨by rw [hP.out]; rfl, al.out.trans (Below.mono hB3.out al.out.size)⟩
          · rw [hq, Bool.true_and] at heq; replace heq := ZZ heq; go_wp2_with fail; refine st 12 (S := fun w' => w'.cell? ⟨wr.heap.size, 2, none⟩ = some (O Y x.b) ∧ w'.cell? ⟨w.heap.size, 12, none⟩ = some (.slice (some ad3) im.blocks.length ck) ∧ w'.cell? ⟨wr.heap.size, 1, none⟩ = some (O Y (q : Int)) ∧ w'.cell? (ad3.add q) = some (.slice Au bl.length cu)) (ds := []) ⟨y2, c12, y1, cq⟩ (fun hHeld => ?_); generalize W2.drew = u0 at *; refine pq 0 ?_; refine pq 2 ?_; refine pq 3 ?_; refine pq 5 ?_; refine tk 1 hHeld ?_; refine tk 4 hHeld ?_; refine tk 6 hHeld ?_; refine pq 7 ?_; refine tk 8 hHeld ?_; refine pq 9 ?_; refine pq 10 ?_; refine pq 11 ?_; refine dn ?_; clear hHeld y0 y1 y2 y2' cq; go_wp2_with fail; exact ⟨⟨k + 1, hd.out, by go_num, heq.out, hB3.out⟩, by have := hd.out; simp [intOf]; omega⟩
        · have g3 : (x.o == 17) = false := beq_eq_false_iff_ne.mpr h17; by_cases h18 : x.o = 18
          · have g4 : (x.o == 18) = true := beq_iff_eq.mpr h18; replace h17 := ZZ h17; replace h18 := ZZ h18; rw [show nameOk t im x = decide (x.b < ((im.blocks.getD x.a.toNat []).length : Int)) by unfold nameOk; rw [if_neg h15, if_neg h16, if_pos (.inr h18.out)]] at heq; obtain ⟨ha1, ha2⟩ := hA.out x hxm (.inr h18.out); obtain ⟨q, hq2⟩ : ∃ q : Nat, x.a = (q : Int) := ⟨x.a.toNat, by omega⟩
            rw [hq2] at ha1 ha2 heq c1' y1; rw [Int.toNat_natCast] at ha2 heq; rw [hq2] at hW2; obtain ⟨bl, hblk⟩ : ∃ bl, im.blocks[q]? = some bl := ⟨_, GE ha2⟩
            rw [GD, hblk, Option.getD_some] at heq; obtain ⟨ad3, Au, cu, rfl, cq, -⟩ := (H5.out.step hB2d).inner q bl hblk; have d3 : ((q : Nat) : Int) < (im.blocks.length : Int) := by omega
            have d4 : decide (im.blocks.length ≤ q) = false := decide_eq_false (by omega); have y2' := y2; have hB3 := ZZ hB2d; replace h15 := ZZ h15; replace h16 := ZZ h16; replace hq2 := ZZ hq2; clear hblk ha1 ha2 hxm hxm2; cases hq : decide (x.b < (bl.length : Int))
            · rw [hq, Bool.false_and] at heq; have hP := ZZ (show namesE t im = 12 by unfold namesE; rw [heq]; exact if_neg (by simp)); clear heq; go_wp2_with fail; refine st 12 (S := fun w' => w'.cell? ⟨wr.heap.size, 2, none⟩ = some (O Y x.b) ∧ w'.cell? ⟨w.heap.size, 12, none⟩ = some (.slice (some ad3) im.blocks.length ck) ∧ w'.cell? ⟨wr.heap.size, 1, none⟩ = some (O Y (q : Int)) ∧ w'.cell? (ad3.add q) = some (.slice Au bl.length cu)) (ds := []) ⟨y2, c12, y1, cq⟩ (fun hHeld => ?_); generalize W2.drew = u0 at *; refine pq 0 ?_; refine pq 2 ?_; refine pq 3 ?_; refine pq 5 ?_; refine tk 1 hHeld ?_; refine tk 4 hHeld ?_; refine tk 6 hHeld ?_; refine pq 7 ?_; refine tk 8 hHeld ?_; refine pq 9 ?_; refine pq 10 ?_; refine pq 11 ?_; refine dn ?_; clear hHeld y0 y1 y2 y2' cq; go_wp2_with fail; go_ret; exact ⟨by rw [hP.out]; rfl, al.out.trans (Below.mono hB3.out al.out.size)⟩
            · rw [hq, Bool.true_and] at heq; replace heq := ZZ heq; go_wp2_with fail; refine st 12 (S := fun w' => w'.cell? ⟨wr.heap.size, 2, none⟩ = some (O Y x.b) ∧ w'.cell? ⟨w.heap.size, 12, none⟩ = some (.slice (some ad3) im.blocks.length ck) ∧ w'.cell? ⟨wr.heap.size, 1, none⟩ = some (O Y (q : Int)) ∧ w'.cell? (ad3.add q) = some (.slice Au bl.length cu)) (ds := []) ⟨y2, c12, y1, cq⟩ (fun hHeld => ?_); generalize W2.drew = u0 at *; refine pq 0 ?_; refine pq 2 ?_; refine pq 3 ?_; refine pq 5 ?_; refine tk 1 hHeld ?_; refine tk 4 hHeld ?_; refine tk 6 hHeld ?_; refine pq 7 ?_; refine tk 8 hHeld ?_; refine pq 9 ?_; refine pq 10 ?_; refine pq 11 ?_; refine dn ?_; clear hHeld y0 y1 y2 y2' cq; go_wp2_with fail; exact ⟨⟨k + 1, hd.out, by go_num, heq.out, hB3.out⟩, by have := hd.out; simp [intOf]; omega⟩
          · have g4 : (x.o == 18) = false := beq_eq_false_iff_ne.mpr h18; rw [show nameOk t im x = true by unfold nameOk; rw [if_neg h15, if_neg h16, if_neg (by omega)], Bool.true_and] at heq; replace heq := ZZ heq; replace h15 := ZZ h15; replace h16 := ZZ h16; replace h17 := ZZ h17; replace h18 := ZZ h18; clear hB2d hxm hxm2; go_wp2_with fail; exact ⟨⟨k + 1, hd.out, by go_num, heq.out, hB2.out⟩, by have := hd.out; simp [intOf]; omega⟩
  · have b1 : ¬ (((k : Nat) : Int) < (t.code.length : Int)) := by omega
    rw [List.drop_of_length_le (by omega)] at heq; have hP := ZZ (show namesE t im = 0 by unfold namesE; rw [heq]; rfl); replace hb := ZZ hb; clear hd hk heq; go_wp2_with fail; go_ret; exact ⟨by rw [hP.out]; rfl, al.out.trans (hb.out.mono al.out.size)⟩
end Go.Proofs.YtoopeamoejmjeaaGreat.Tp
namespace Go.Proofs.YtoopeamoejmjeaaGreat.Tp
open RowKit YtoopeamoejmjeaaGreatW.PrintWords Tm
def LockAt (l : List I3) (q : Nat) : Prop := ∃ x ∈ l, x.o = 23 ∧ x.a = (q : Int)
theorem heldN_lock (l : List I3) (hl : OkL l) (h : List Int) : ∀ (k : Nat) (i q : Nat), ((heldN l h k).getD i 0).testBit q = true → LockAt l q := by
 intro k; induction k with
 | zero =>
  intro i q hb; rw [heldN, GD, List.getElem?_replicate] at hb; split at hb <;> simp at hb
 | succ k ih =>
  intro i q hb; rw [heldN, held1] at hb; split at hb
  · exact ih i q hb
  · by_cases hk : k < (heldN l h k).length
    · rw [getD_set _ _ _ _ _ hk] at hb; split at hb
      · split at hb
        · rename_i h23; rw [Nat.testBit_or, Bool.or_eq_true] at hb; rcases hb with hb | hb
          · exact ih _ q hb
          · cases hx : l[(h.getD k 0).toNat]? with
            | none =>
             rw [GD, hx] at h23; exact absurd h23 (by decide)
            | some x =>
             rw [GD, hx] at h23 hb; simp only [Option.getD_some] at h23 hb; have hm := LM hx; have hbd := lock_bd (hl.all x hm) (.inl h23); rw [Nat.testBit_two_pow] at hb; exact ⟨x, hm, h23, by have := of_decide_eq_true hb; omega⟩
        · exact ih _ q hb
      · exact ih i q hb
    · rw [List.set_eq_of_length_le (by omega)] at hb; exact ih i q hb
theorem bit_held {E q : Nat} (hE : E < 256) (hb : bits .and .i64 ((E : Int) / 2 ^ q) 1 = 1) : E.testBit q = true := by
 have e : (E : Int) / 2 ^ q = ((E / 2 ^ q : Nat) : Int) := by simp
 have hlt : E / 2 ^ q < 2 ^ 8 := Nat.lt_of_le_of_lt (Nat.div_le_self _ _) hE; have h := (bits_nat .i64 8 (by decide) (fun n h0 h1 => by rw [IntKind.wrap_i64]; omega) (E / 2 ^ q) 1 hlt (by decide)).1; rw [e, show (1 : Int) = ((1 : Nat) : Int) from rfl, h, Nat.and_one_is_mod] at hb; rw [Nat.testBit_eq_decide_div_mod_eq]; exact decide_eq_true (by omega)
theorem lockF_mem {l : List I3} {h : List Int} {E : List Nat} : ∀ (n k : Nat) (fr : Bool) (o out : List Int), n = l.length - k → lockF l h E (l.drop k) k fr o = some out → (∀ a ∈ o, a ∈ out) ∧ (∀ i x, k ≤ i → l[i]? = some x → x.o = 23 → x.a ∈ out) ∧ (∀ i x, k ≤ i → l[i]? = some x → x.o = 17 ∨ x.o = 18 → bits .and .i64 ((E.getD i 0 : Int) / 2 ^ x.a.toNat) 1 = 1) := by
 intro n; induction n with
 | zero =>
  intro k fr o out hn e; rw [List.drop_of_length_le (by omega), lockF] at e; injection e with e
  subst e; refine ⟨fun a ha => ha, fun i x hi hx => ?_, fun i x hi hx => ?_⟩ <;> (have := (GI.1 hx).1; omega)
 | succ n ih =>
  intro k fr o out hn e; have hd : k < l.length := by omega
  have hxk := GE hd; rw [lockF_cons hxk] at e; have key : ∀ (fr' : Bool) (o' : List Int), lockF l h E (l.drop (k + 1)) (k + 1) fr' o' = some out → (∀ a ∈ o, a ∈ o') → (l[k].o = 23 → l[k].a ∈ o') → (l[k].o = 17 ∨ l[k].o = 18 → bits .and .i64 ((E.getD k 0 : Int) / 2 ^ l[k].a.toNat) 1 = 1) → (∀ a ∈ o, a ∈ out) ∧ (∀ i x, k ≤ i → l[i]? = some x → x.o = 23 → x.a ∈ out) ∧ (∀ i x, k ≤ i → l[i]? = some x → x.o = 17 ∨ x.o = 18 → bits .and .i64 ((E.getD i 0 : Int) / 2 ^ x.a.toNat) 1 = 1) := by
   intro fr' o' e' h1 h2 h3; obtain ⟨g1, g2, g3⟩ := ih (k + 1) fr' o' out (by omega) e'; refine ⟨fun a ha => g1 a (h1 a ha), fun i x hi hx ho => ?_, fun i x hi hx ho => ?_⟩
   · by_cases e2 : i = k
     · subst e2; rw [hxk] at hx; injection hx with hx
       subst hx; exact g1 _ (h2 ho)
     · exact g2 i x (by omega) hx ho
   · by_cases e2 : i = k
     · subst e2; rw [hxk] at hx; injection hx with hx
       subst hx; exact h3 ho
     · exact g3 i x (by omega) hx ho
  split at e
  · rename_i h23; split at e
    · exact key _ _ e (fun a ha => List.mem_append_left _ ha) (fun _ => by simp) (fun h => by omega)
    · cases e
  · rename_i h23; split at e
    · exact key _ _ e (fun a ha => ha) (fun h => absurd h h23) (fun h => by omega)
    · split at e
      · rename_i h17; split at e
        · rename_i hb; exact key _ _ e (fun a ha => ha) (fun h => absurd h h23) (fun _ => hb)
        · cases e
      · rename_i h17; exact key _ _ e (fun a ha => ha) (fun h => absurd h h23) (fun h => absurd h h17)
theorem locks_get {l : List I3} (hl : OkL l) (h : locksE l = 0) : ∀ x ∈ l, x.o = 17 ∨ x.o = 18 → 0 ≤ x.a ∧ x.a ∈ locksO l := by
 intro x hx ho; have hw := locks_whole h; unfold locksE at h; rw [if_pos hw] at h; cases hr : lockR l with
 | none => rw [hr] at h; cases h
 | some out =>
  have hO : locksO l = out := by unfold locksO; rw [if_pos hw, hr]; rfl
  obtain ⟨-, g2, g3⟩ := lockF_mem (l := l) (h := homeP l) (E := heldP l) l.length 0 false [] out (by omega) (by rw [List.drop_zero]; exact hr); obtain ⟨i, hi⟩ := List.mem_iff_getElem?.1 hx; have hbd := lock_bd (hl.all x hx) (.inr (.inr ho)); have hE : (heldP l).getD i 0 < 256 := getD_lt (heldN_lt l (homeP l) hl.all l.length) i; have hb := bit_held hE (g3 i x (by omega) hi ho); obtain ⟨y, hy, hy1, hy2⟩ := heldN_lock l hl (homeP l) l.length i _ hb; obtain ⟨j, hj⟩ := List.mem_iff_getElem?.1 hy; have := g2 j y (by omega) hj hy1; rw [hO]; exact ⟨hbd.1, by rw [hy2, Int.toNat_of_nonneg hbd.1] at this; exact this⟩
theorem tasksOk_mem {nb ns : Nat} : ∀ (L : List TaskD) (own : List Int), tasksOk nb ns own L = true → ∀ t ∈ L, t.ok nb ns = true := by
 intro L; induction L with
 | nil => intro own _ t ht; cases ht
 | cons t0 L ih =>
  intro own h t ht; rw [tasksOk] at h; split at h
  · rename_i h0; rcases List.mem_cons.1 ht with rfl | ht
    · exact h0
    · split at h
      · cases h
      · exact ih _ h t ht
  · cases h
theorem im_task {im : ImageD} (h : im.ok = true) {t : TaskD} (ht : t ∈ im.tasks) : t.ok im.blocks.length im.safe.length = true := by
 unfold ImageD.ok at h; simp only [Bool.and_eq_true] at h; exact tasksOk_mem _ _ h.2.2 t ht
theorem task_code {im : ImageD} (h : im.ok = true) (hs : im.small) {t : TaskD} (ht : t ∈ im.tasks) : OkL t.code := by
 have hk := im_task h ht; unfold TaskD.ok at hk; simp only [Bool.and_eq_true, Bool.not_eq_true', beq_eq_false_iff_ne] at hk; obtain ⟨-, h1, h2, h3, h4⟩ := hk; unfold codeB at h4; split at h4
 · rename_i h5; exact ⟨by omega, h5.1, fun x hx => List.all_eq_true.1 h5.2 x hx, hs t ht⟩
 · exact absurd h4 (by simp [ByteArray.toList, ByteArray.toList.loop])
theorem task_blocks {im : ImageD} (h : im.ok = true) {t : TaskD} (ht : t ∈ im.tasks) : ∀ b ∈ t.blocks, 0 ≤ b ∧ b < im.blocks.length := by
 have hk := im_task h ht; unfold TaskD.ok at hk; simp only [Bool.and_eq_true] at hk; exact rises_bd _ _ _ (by omega) hk.2.2.1
theorem names_safe {im : ImageD} (h : im.ok = true) (hs : im.small) {t : TaskD} (ht : t ∈ im.tasks) (hj : jblkE t = 0) : ∀ x ∈ t.code, x.o = 17 ∨ x.o = 18 → 0 ≤ x.a ∧ x.a.toNat < im.blocks.length := by
 intro x hx ho; unfold jblkE at hj; split at hj
 · rename_i hE; split at hj
   · rename_i hb; obtain ⟨h1, h2⟩ := locks_get (task_code h hs ht) hE x hx ho; rw [hb] at h2; have := task_blocks h ht _ h2; omega
   · omega
 · rename_i hE; exact absurd hj hE
end Go.Proofs.YtoopeamoejmjeaaGreat.Tp
namespace Go.Proofs.YtoopeamoejmjeaaGreat.Tp
open RowKit YtoopeamoejmjeaaGreatW.PrintWords YtoopeamoejmjeaaGreatW.PrintLast YtoopeamoejmjeaaGreatW.PrintMore Tm
def taskE (t : TaskD) (im : ImageD) : Int := if (worstP t.code).2 = 0 then (if jblkE t = 0 then namesE t im else jblkE t) else (worstP t.code).2
theorem idx157 (k : Nat) (F : Nat → Nat) (w : World) (hk : k < 3) : (Instr.index 157 (.agg #[.func (.func (F 0)) #[] #[], .func (.func (F 1)) #[] #[], .func (.func (F 2)) #[] #[]]) (O Y (k : Int))).run Tryz.prog w = .ok (.func (.func (F k)) #[] #[]) w := by
 obtain ⟨i0, hi, hz⟩ := Option.map_eq_some_iff.1 (show (Tryz.prog.info? 155).map (·.size) = some 1 by kernel_rfl); rcases (by omega : k = 0 ∨ k = 1 ∨ k = 2) with rfl | rfl | rfl <;> simp [Instr.index, run_underlying Tryz.underlying157, asIntOf, asAgg, part, sizeOf, typeInfo, hi, hz, isAgg, run_underlying Tryz.underlying155]
def fn3 (k : Nat) : Nat := if k = 0 then 63 else if k = 1 then 64 else 65
theorem idx157' (k : Int) (n : Nat) (w : World) (hk : k = 0 ∧ n = 63 ∨ k = 1 ∧ n = 64 ∨ k = 2 ∧ n = 65) : (Instr.index 157 (.agg #[.func (.func 63) #[] #[], .func (.func 64) #[] #[], .func (.func 65) #[] #[]]) (O Y k)).run Tryz.prog w = .ok (.func (.func n) #[] #[]) w := by
 rcases hk with ⟨rfl, rfl⟩ | ⟨rfl, rfl⟩ | ⟨rfl, rfl⟩
 · exact idx157 0 fn3 w (by decide)
 · exact idx157 1 fn3 w (by decide)
 · exact idx157 2 fn3 w (by decide)
def CkRel (w : World) (t : TaskD) (im : ImageD) (vi : Value) (wr : World) : Prop := ∃ k : Nat, k ≤ 3 ∧ vi = O Y k ∧ (1 ≤ k → (worstP t.code).2 = 0) ∧ (2 ≤ k → jblkE t = 0) ∧ (3 ≤ k → namesE t im = 0) ∧ Below w.heap.size w wr
theorem TasksAt.elem {W : World} {A : Option Addr} {n c : Nat} {L : List TaskD} (h : TasksAt W (.slice A n c) L) (j : Nat) (t : TaskD) (hj : L[j]? = some t) : ∃ ad, A = some ad ∧ TaskAt W (ad.add (j * 7)) t := by
 obtain ⟨A', c', e, _, h2⟩ := h; injection e with e1 e2 e3
 subst e1; exact h2 j t hj
theorem chk_any (v : Value) (im : ImageD) (i : Nat) (t : TaskD) (w : World) (h : ImageAt w v im) (hok : im.ok = true) (hsm : im.small) (ht : im.tasks[i]? = some t) (hbl : t.blocks.length ≤ 1000) (hol : t.outs.length ≤ 1000) (hil : im.tasks.length ≤ 1000) : Calls Tryz.prog 32 #[v, O Y (i : Int)] w fun e w' => e = .returned (O Y (taskE t im)) ∧ Below w.heap.size w w' := by
 have hi := (GI.1 ht).1; have htm := LM ht; have hcode := task_code hok hsm htm; obtain ⟨vs, vb, vt, rfl, h1, h2, h3⟩ := id h; obtain ⟨As, cs, rfl, -⟩ := id h1; obtain ⟨Ak, ck, rfl, -⟩ := id h2; obtain ⟨At, ct, rfl, -⟩ := id h3; obtain ⟨adt, rfl, hta⟩ := h3.elem i t ht; have b1 : ((i : Nat) : Int) < (im.tasks.length : Int) := by omega
 have b2 : decide (im.tasks.length ≤ i) = false := decide_eq_false (by omega); have b3 : (i : Int) ≤ 1000 := by omega
 have b4 : decide ((im.tasks.length : Int) ≤ (i : Int)) = false := decide_eq_false (by omega); have hbl0 := heap_alloc_last w (.cells #[O Y im.sw, O Y im.la, O Y im.co, O Y im.inp, .slice As im.safe.length cs, .slice Ak im.blocks.length ck, .slice (some adt) im.tasks.length ct] 26); have al := (BR w.heap.size w).alloc (NR _) (.cells #[O Y im.sw, O Y im.la, O Y im.co, O Y im.inp, .slice As im.safe.length cs, .slice Ak im.blocks.length ck, .slice (some adt) im.tasks.length ct] 26); obtain ⟨W1, hW1⟩ : ∃ W1, w.alloc (.cells #[O Y im.sw, O Y im.la, O Y im.co, O Y im.inp, .slice As im.safe.length cs, .slice Ak im.blocks.length ck, .slice (some adt) im.tasks.length ct] 26) = W1 := ⟨_, rfl⟩
 rw [hW1] at hbl0 al; have c0 := bk hbl0 0 (O Y im.sw); have c1 := bk hbl0 1 (O Y im.la); have c2 := bk hbl0 2 (O Y im.co); have c3 := bk hbl0 3 (O Y im.inp); have c4 := bk hbl0 4 (.slice As im.safe.length cs); have c5 := bk hbl0 5 (.slice Ak im.blocks.length ck); have c6 := bk hbl0 6 (.slice (some adt) im.tasks.length ct); have hRt := iright_any im _ W1 (h.step al) hsm; rw [hok] at hRt; replace hRt := ZZ hRt; replace h := ZZ h; replace hcode := ZZ hcode; replace hok := ZZ hok; replace hsm := ZZ hsm; replace htm := ZZ htm; replace ht := ZZ ht; replace hi := ZZ hi; clear h1 h2 h3; replace hta := ZZ hta; go_enter Tryz.func32, Tryz.ntmps32; go_wp2_with fail; refine hRt.out.mono ?_; rintro e w2 ⟨rfl, hb2⟩; have hB2 := al.trans (hb2.mono al.size); have hbl2 := (hb2.block _ (ltA hbl0)).trans hbl0; clear c0 c1 c2 c3 c4 c5 c6; have c0 := bk hbl2 0 (O Y im.sw); have c1 := bk hbl2 1 (O Y im.la); have c2 := bk hbl2 2 (O Y im.co); have c3 := bk hbl2 3 (O Y im.inp); have c4 := bk hbl2 4 (.slice As im.safe.length cs); have c5 := bk hbl2 5 (.slice Ak im.blocks.length ck); have c6 := bk hbl2 6 (.slice (some adt) im.tasks.length ct); obtain ⟨vb', vo', vc', t0, t1, t2, t3, t4, t5, t6, q1, q2, q3⟩ := hta.out.step hB2; obtain ⟨Ab, cb, rfl, -⟩ := id q1; obtain ⟨Ao, co, rfl, -⟩ := id q2; obtain ⟨Ac, cc, rfl, -⟩ := id q3; have hIm := h.out.step hB2; have hB2d := ZZ hB2.drew; have hJb : Hid (∀ W', Below w2.drew.heap.size w2.drew W' → JobAt W' (.agg #[O Y t.prio, O Y t.period, O Y t.deadline, O Y t.jitter, .slice Ab t.blocks.length cb, .slice Ao t.outs.length co, .slice Ac t.code.length cc, O Y im.sw, O Y im.la, O Y im.co, O Y im.inp, .slice As im.safe.length cs, .slice Ak im.blocks.length ck, .slice (some adt) im.tasks.length ct]) t im) := ZZ (fun W' hb => by
  obtain ⟨vs2, vb2, vt2, e, g1, g2, g3⟩ := hIm.step (BR _ _).drew; injection e with e
  have e2 := congrArg Array.toList e; simp only [List.cons.injEq, and_true, true_and] at e2; obtain ⟨rfl, rfl, rfl⟩ := e2; exact ⟨Ab, Ao, Ac, As, Ak, some adt, cb, co, cc, cs, ck, ct, rfl, (q1.step (BR _ _).drew).step hb, (q2.step (BR _ _).drew).step hb, (q3.step (BR _ _).drew).step hb, g1.step hb, g2.step hb, g3.step hb⟩)
 clear hbl0 hbl2 hRt hb2 hta hIm q1 q2 q3 al hW1 hB2; go_wp2_with fail; refine st 9 (S := fun w' => w'.cell? ⟨w.heap.size, 0, none⟩ = some (O Y im.sw) ∧ w'.cell? ⟨w.heap.size, 1, none⟩ = some (O Y im.la) ∧ w'.cell? ⟨w.heap.size, 2, none⟩ = some (O Y im.co) ∧ w'.cell? ⟨w.heap.size, 3, none⟩ = some (O Y im.inp) ∧ w'.cell? ⟨w.heap.size, 4, none⟩ = some (.slice As im.safe.length cs) ∧ w'.cell? ⟨w.heap.size, 5, none⟩ = some (.slice Ak im.blocks.length ck) ∧ w'.cell? ⟨w.heap.size, 6, none⟩ = some (.slice (some adt) im.tasks.length ct) ∧ w'.cell? (adt.add (i * 7)) = some (O Y t.prio) ∧ w'.cell? ⟨(adt.add (i * 7)).block, (adt.add (i * 7)).off + 1, none⟩ = some (O Y t.period) ∧ w'.cell? ⟨(adt.add (i * 7)).block, (adt.add (i * 7)).off + 2, none⟩ = some (O Y t.deadline) ∧ w'.cell? ⟨(adt.add (i * 7)).block, (adt.add (i * 7)).off + 3, none⟩ = some (O Y t.jitter) ∧ w'.cell? ⟨(adt.add (i * 7)).block, (adt.add (i * 7)).off + 4, none⟩ = some (.slice Ab t.blocks.length cb) ∧ w'.cell? ⟨(adt.add (i * 7)).block, (adt.add (i * 7)).off + 5, none⟩ = some (.slice Ao t.outs.length co) ∧ w'.cell? ⟨(adt.add (i * 7)).block, (adt.add (i * 7)).off + 6, none⟩ = some (.slice Ac t.code.length cc)) (ds := [8]) ⟨c0, c1, c2, c3, c4, c5, c6, t0, t1, t2, t3, t4, t5, t6⟩ (fun hHeld => ?_); generalize w2.drew = u0 at *; refine pq 0 ?_; refine pq 2 ?_; refine tk 1 hHeld ?_; refine pq 3 ?_; refine tk 4 hHeld ?_; refine tk 5 hHeld ?_; refine pq 6 ?_; refine rg1 7 (fun K hK => ?_); refine value_ (w1 := ?_) (v := ?_) (by rfl) rfl ?_ ?_; rotate_left 2
 · go_simp; constructor
   · rfl
   · rfl
 refine hK.out _ _ ⟨cell_keep ((BR _ _).alloc (NR _) _) (NR _) hHeld.1, cell_keep ((BR _ _).alloc (NR _) _) (NR _) hHeld.2.1, cell_keep ((BR _ _).alloc (NR _) _) (NR _) hHeld.2.2.1, cell_keep ((BR _ _).alloc (NR _) _) (NR _) hHeld.2.2.2.1, cell_keep ((BR _ _).alloc (NR _) _) (NR _) hHeld.2.2.2.2.1, cell_keep ((BR _ _).alloc (NR _) _) (NR _) hHeld.2.2.2.2.2.1, cell_keep ((BR _ _).alloc (NR _) _) (NR _) hHeld.2.2.2.2.2.2.1, cell_keep ((BR _ _).alloc (NR _) _) (NR _) hHeld.2.2.2.2.2.2.2.1, cell_keep ((BR _ _).alloc (NR _) _) (NR _) hHeld.2.2.2.2.2.2.2.2.1, cell_keep ((BR _ _).alloc (NR _) _) (NR _) hHeld.2.2.2.2.2.2.2.2.2.1, cell_keep ((BR _ _).alloc (NR _) _) (NR _) hHeld.2.2.2.2.2.2.2.2.2.2.1, cell_keep ((BR _ _).alloc (NR _) _) (NR _) hHeld.2.2.2.2.2.2.2.2.2.2.2.1, cell_keep ((BR _ _).alloc (NR _) _) (NR _) hHeld.2.2.2.2.2.2.2.2.2.2.2.2.1, cell_keep ((BR _ _).alloc (NR _) _) (NR _) hHeld.2.2.2.2.2.2.2.2.2.2.2.2.2⟩ (fun hHeld => ?_); clear hK K; refine nm ?_; refine rg2 8 (fun K hK => ?_); refine skip_ (w1 := ?_) (by rfl) rfl ?_ ?_; rotate_left
 · go_simp; rfl
 refine hK.out _ _ ?_; clear hK K; refine dn ?_; have hjb := heap_alloc_last u0 (.cells #[O Y t.prio, O Y t.period, O Y t.deadline, O Y t.jitter, .slice Ab t.blocks.length cb, .slice Ao t.outs.length co, .slice Ac t.code.length cc, O Y im.sw, O Y im.la, O Y im.co, O Y im.inp, .slice As im.safe.length cs, .slice Ak im.blocks.length ck, .slice (some adt) im.tasks.length ct] 154); have al6 := (BR u0.heap.size u0).alloc (NR _) (.cells #[O Y t.prio, O Y t.period, O Y t.deadline, O Y t.jitter, .slice Ab t.blocks.length cb, .slice Ao t.outs.length co, .slice Ac t.code.length cc, O Y im.sw, O Y im.la, O Y im.co, O Y im.inp, .slice As im.safe.length cs, .slice Ak im.blocks.length ck, .slice (some adt) im.tasks.length ct] 154); obtain ⟨gj, hgj⟩ : ∃ gj, u0.heap.size = gj := ⟨_, rfl⟩
 obtain ⟨W6, hW6⟩ : ∃ W6, u0.alloc (.cells #[O Y t.prio, O Y t.period, O Y t.deadline, O Y t.jitter, .slice Ab t.blocks.length cb, .slice Ao t.outs.length co, .slice Ac t.code.length cc, O Y im.sw, O Y im.la, O Y im.co, O Y im.inp, .slice As im.safe.length cs, .slice Ak im.blocks.length ck, .slice (some adt) im.tasks.length ct] 154) = W6 := ⟨_, rfl⟩
 rw [hW6] at hjb al6 ⊢; have hB6 := ZZ (hB2d.out.trans (al6.mono hB2d.out.size)); have hJ6 := ZZ (hJb.out W6 al6); rw [hgj] at hjb ⊢; replace hjb := ZZ hjb; clear hHeld al6 hW6 hgj hJb hB2d c0 t0 c1 t1 c2 t2 c3 t3 c4 t4 c5 t5 c6 t6; go_wp2_with fail; go_loopw [31] (fun vi wr => CkRel W6 t im vi wr) (fun vi _ => 3 - (intOf vi).toNat); case atStart => exact ⟨0, by decide, rfl, by omega, by omega, by omega, BR _ _⟩
 case round =>
  obtain ⟨k, hk, rfl, p1, p2, p3, hb⟩ := hrel; have hbl2 := (hb.block _ (ltA hjb.out)).trans hjb.out; have t0 := bk hbl2 0 (O Y t.prio); have t1 := bk hbl2 1 (O Y t.period); have t2 := bk hbl2 2 (O Y t.deadline); have t3 := bk hbl2 3 (O Y t.jitter); have t4 := bk hbl2 4 (.slice Ab t.blocks.length cb); have t5 := bk hbl2 5 (.slice Ao t.outs.length co); have t6 := bk hbl2 6 (.slice Ac t.code.length cc); have c0 := bk hbl2 7 (O Y im.sw); have c1 := bk hbl2 8 (O Y im.la); have c2 := bk hbl2 9 (O Y im.co); have c3 := bk hbl2 10 (O Y im.inp); have c4 := bk hbl2 11 (.slice As im.safe.length cs); have c5 := bk hbl2 12 (.slice Ak im.blocks.length ck); have c6 := bk hbl2 13 (.slice (some adt) im.tasks.length ct); replace hbl2 := ZZ hbl2; rcases (by omega : k = 0 ∨ k = 1 ∨ k = 2 ∨ k = 3) with rfl | rfl | rfl | rfl
  · clear p1 p2 p3; have i0 := fun w' => idx157' 0 63 w' (by decide); have hC := ZZ (steps_any _ t im wr (hJ6.out.step hb) hcode.out); replace hb := ZZ hb; go_wp2_with fail; refine hC.out.mono ?_; rintro e w5 ⟨rfl, hb5⟩; have hB5 := ZZ (hb.out.trans (hb5.mono hb.out.size)); clear hC hb5 i0 c0 c1 c2 c3 c4 c5 c6 t0 t1 t2 t3 t4 t5 t6; by_cases he : (worstP t.code).2 = 0
    · rw [he]; have he2 := ZZ he; replace he := ZZ he; go_wp2_with fail; exact ⟨⟨1, by decide, rfl, fun _ => he2.out, by omega, by omega, hB5.out⟩, by decide⟩
    · have hP := ZZ (show taskE t im = (worstP t.code).2 by unfold taskE; rw [if_neg he]); have g1 : ((worstP t.code).2 != 0) = true := bne_iff_ne.mpr he; generalize (worstP t.code).2 = ev at *; replace he := ZZ he; go_wp2_with fail; go_ret; exact ⟨by rw [hP.out]; rfl, hB6.out.trans (hB5.out.mono hB6.out.size)⟩
  · clear p2 p3; have i0 := fun w' => idx157' 1 64 w' (by decide); have hC := ZZ (jblocks_any _ t im wr (hJ6.out.step hb) hcode.out hbl); replace hb := ZZ hb; go_wp2_with fail; refine hC.out.mono ?_; rintro e w5 ⟨rfl, hb5⟩; have hB5 := ZZ (hb.out.trans (hb5.mono hb.out.size)); clear hC hb5 i0 c0 c1 c2 c3 c4 c5 c6 t0 t1 t2 t3 t4 t5 t6; by_cases he : jblkE t = 0
    · rw [he]; have he2 := ZZ he; replace he := ZZ he; go_wp2_with fail; exact ⟨⟨2, by decide, rfl, fun _ => p1 (by decide), fun _ => he2.out, by omega, hB5.out⟩, by decide⟩
    · have hP := ZZ (show taskE t im = jblkE t by unfold taskE; rw [if_pos (p1 (by decide)), if_neg he]); have g1 : (jblkE t != 0) = true := bne_iff_ne.mpr he; generalize jblkE t = ev at *; replace he := ZZ he; go_wp2_with fail; go_ret; exact ⟨by rw [hP.out]; rfl, hB6.out.trans (hB5.out.mono hB6.out.size)⟩
  · clear p3; have i0 := fun w' => idx157' 2 65 w' (by decide); have hC := ZZ (names_any _ t im wr (hJ6.out.step hb) hcode.out hol (names_safe hok.out hsm.out htm.out (p2 (by decide)))); replace hb := ZZ hb; go_wp2_with fail; refine hC.out.mono ?_; rintro e w5 ⟨rfl, hb5⟩; have hB5 := ZZ (hb.out.trans (hb5.mono hb.out.size)); clear hC hb5 i0 c0 c1 c2 c3 c4 c5 c6 t0 t1 t2 t3 t4 t5 t6; by_cases he : namesE t im = 0
    · rw [he]; have he2 := ZZ he; replace he := ZZ he; go_wp2_with fail; exact ⟨⟨3, by decide, rfl, fun _ => p1 (by decide), fun _ => p2 (by decide), fun _ => he2.out, hB5.out⟩, by decide⟩
    · have hP := ZZ (show taskE t im = namesE t im by unfold taskE; rw [if_pos (p1 (by decide)), if_pos (p2 (by decide))]); have g1 : (namesE t im != 0) = true := bne_iff_ne.mpr he; generalize namesE t im = ev at *; replace he := ZZ he; go_wp2_with fail; go_ret; exact ⟨by rw [hP.out]; rfl, hB6.out.trans (hB5.out.mono hB6.out.size)⟩
  · have hP := ZZ (show taskE t im = 0 by unfold taskE; rw [if_pos (p1 (by decide)), if_pos (p2 (by decide))]; exact p3 (by decide)); replace hb := ZZ hb; clear p1 p2 p3 c0 c1 c2 c3 c4 c5 c6 t0 t1 t2 t3 t4 t5 t6; go_wp2_with fail; go_ret; exact ⟨by rw [hP.out]; rfl, hB6.out.trans (hb.out.mono hB6.out.size)⟩
def allF (im : ImageD) : List TaskD → Nat → Int × Int
 | [], _ => (-1, 0)
 | t :: r, k => if taskE t im = 0 then allF im r (k + 1) else ((k : Int), taskE t im)
def allP (im : ImageD) : Int × Int := allF im im.tasks 0
theorem allF_cons {im : ImageD} {L : List TaskD} {k : Nat} {t : TaskD} (ht : L[k]? = some t) : allF im (L.drop k) k = if taskE t im = 0 then allF im (L.drop (k + 1)) (k + 1) else ((k : Int), taskE t im) := by
 have h := (GI.1 ht).1; rw [List.drop_eq_getElem_cons h, allF]; rw [GE h] at ht; injection ht with ht
 rw [ht]
def AlRel (w : World) (im : ImageD) (vi : Value) (wr : World) : Prop := ∃ k : Nat, k ≤ im.tasks.length ∧ vi = O Y k ∧ allP im = allF im (im.tasks.drop k) k ∧ Below w.heap.size w wr
theorem call_any (v : Value) (im : ImageD) (w : World) (h : ImageAt w v im) (hok : im.ok = true) (hsm : im.small) (hi : ImOk im) : Calls Tryz.prog 11 #[v] w fun e w' => e = .returned (.tuple #[O Y (allP im).1, O Y (allP im).2]) ∧ Below w.heap.size w w' := by
 obtain ⟨vs, vb, vt, rfl, h1, h2, h3⟩ := id h; obtain ⟨As, cs, rfl, -⟩ := id h1; obtain ⟨Ak, ck, rfl, -⟩ := id h2; obtain ⟨At, ct, rfl, -⟩ := id h3; have hbl0 := heap_alloc_last w (.cells #[O Y im.sw, O Y im.la, O Y im.co, O Y im.inp, .slice As im.safe.length cs, .slice Ak im.blocks.length ck, .slice At im.tasks.length ct] 26); have al := (BR w.heap.size w).alloc (NR _) (.cells #[O Y im.sw, O Y im.la, O Y im.co, O Y im.inp, .slice As im.safe.length cs, .slice Ak im.blocks.length ck, .slice At im.tasks.length ct] 26); obtain ⟨W1, hW1⟩ : ∃ W1, w.alloc (.cells #[O Y im.sw, O Y im.la, O Y im.co, O Y im.inp, .slice As im.safe.length cs, .slice Ak im.blocks.length ck, .slice At im.tasks.length ct] 26) = W1 := ⟨_, rfl⟩
 rw [hW1] at hbl0 al; have c0 := bk hbl0 0 (O Y im.sw); have c1 := bk hbl0 1 (O Y im.la); have c2 := bk hbl0 2 (O Y im.co); have c3 := bk hbl0 3 (O Y im.inp); have c4 := bk hbl0 4 (.slice As im.safe.length cs); have c5 := bk hbl0 5 (.slice Ak im.blocks.length ck); have c6 := bk hbl0 6 (.slice At im.tasks.length ct); have hRt := iright_any im _ W1 (h.step al) hsm; rw [hok] at hRt; replace hRt := ZZ hRt; replace h := ZZ h; replace hok := ZZ hok; replace hsm := ZZ hsm; have htl := hi.tl; replace hi := ZZ hi; clear h1 h2 h3; go_enter Tryz.func11, Tryz.ntmps11; go_wp2_with fail; refine hRt.out.mono ?_; rintro e w2 ⟨rfl, hb2⟩; have hB2 := ZZ (al.trans (hb2.mono al.size)); have hbl2 := ZZ ((hb2.block _ (ltA hbl0)).trans hbl0); clear c0 c1 c2 c3 c4 c5 c6; have c0 := bk hbl2.out 0 (O Y im.sw); have c1 := bk hbl2.out 1 (O Y im.la); have c2 := bk hbl2.out 2 (O Y im.co); have c3 := bk hbl2.out 3 (O Y im.inp); have c4 := bk hbl2.out 4 (.slice As im.safe.length cs); have c5 := bk hbl2.out 5 (.slice Ak im.blocks.length ck); have c6 := bk hbl2.out 6 (.slice At im.tasks.length ct); clear hRt hb2 al hW1 hbl0; go_wp2_with fail; clear c0 c1 c2 c3 c4 c5 c6; go_loopw [12] (fun vi wr => AlRel w2 im vi wr) (fun vi _ => im.tasks.length - (intOf vi).toNat); case atStart => exact ⟨0, by omega, rfl, rfl, BR _ _⟩
 case round =>
  obtain ⟨k, hk, rfl, heq, hb⟩ := hrel; by_cases hd : k < im.tasks.length
  · have b1 : ((k : Nat) : Int) < (im.tasks.length : Int) := by omega
    have b2 : decide (im.tasks.length ≤ k) = false := decide_eq_false (by omega); have b3 : (k : Int) ≤ 8 := by omega
    obtain ⟨t, ht⟩ : ∃ t, im.tasks[k]? = some t := ⟨_, GE hd⟩
    have hbl3 := (hb.block _ (ltA hbl2.out)).trans hbl2.out; have c0 := bk hbl3 0 (O Y im.sw); have c1 := bk hbl3 1 (O Y im.la); have c2 := bk hbl3 2 (O Y im.co); have c3 := bk hbl3 3 (O Y im.inp); have c4 := bk hbl3 4 (.slice As im.safe.length cs); have c5 := bk hbl3 5 (.slice Ak im.blocks.length ck); have c6 := bk hbl3 6 (.slice At im.tasks.length ct); have hBw := hB2.out.trans (hb.mono hB2.out.size); have hto := hi.out.tasks t (LM ht); have hC := ZZ (chk_any _ im k t wr (h.out.step hBw) hok.out hsm.out ht (by have := hto.bl; omega) (by have := hto.ol; omega) (by omega)); replace heq := heq.trans (allF_cons ht); replace hb := ZZ hb; replace hd := ZZ hd; clear ht hBw hto hbl3 hk; go_wp2_with fail; refine hC.out.mono ?_; rintro e w5 ⟨rfl, hb5⟩; have hB5 := ZZ (hb.out.trans (hb5.mono hb.out.size)); clear hC hb5; clear c0 c1 c2 c3 c4 c5 c6; by_cases he : taskE t im = 0
    · rw [if_pos he] at heq; rw [he]; replace heq := ZZ heq; replace he := ZZ he; go_wp2_with fail; exact ⟨⟨k + 1, hd.out, by go_num, heq.out, hB5.out⟩, by have := hd.out; simp [intOf]; omega⟩
    · rw [if_neg he] at heq; have g1 : (taskE t im != 0) = true := bne_iff_ne.mpr he; generalize taskE t im = ev at *; replace he := ZZ he; replace heq := ZZ heq; go_wp2_with fail; refine bodyPost_ret (results_tmp2 rfl _ _ _) rfl ?_; exact ⟨by rw [heq.out]; rfl, hB2.out.trans (hB5.out.mono hB2.out.size)⟩
  · have b1 : ¬ (((k : Nat) : Int) < (im.tasks.length : Int)) := by omega
    rw [List.drop_of_length_le (by omega), allF] at heq; replace heq := ZZ heq; replace hb := ZZ hb; clear hd hk; go_wp2_with fail; refine bodyPost_ret (results_tmp2 rfl _ _ _) rfl ?_; exact ⟨by rw [heq.out]; rfl, hB2.out.trans (hb.out.mono hB2.out.size)⟩
def slotsV (t : TaskD) (im : ImageD) : Int := im.sw + im.la + (worstP t.code).1 + im.co + im.sw
theorem imhead_bd {im : ImageD} (h : im.ok = true) : (0 ≤ im.sw ∧ im.sw ≤ 100) ∧ (1 ≤ im.la ∧ im.la ≤ 100) ∧ (1 ≤ im.co ∧ im.co ≤ 100) ∧ (0 ≤ im.inp ∧ im.inp ≤ 16) := by
 unfold ImageD.ok headOk at h; simp only [Bool.and_eq_true, beq_iff_eq] at h; obtain ⟨⟨h1, h2, h3, h4, _⟩, _⟩ := h; unfold mx mn at h1 h2 h3 h4; refine ⟨?_, ?_, ?_, ?_⟩
 · split at h1 <;> split at h1 <;> omega
 · split at h2 <;> split at h2 <;> omega
 · split at h3 <;> split at h3 <;> omega
 · split at h4 <;> split at h4 <;> omega
theorem worst_bd {l : List I3} (hl : OkL l) : 0 ≤ (worstP l).1 ∧ (worstP l).1 ≤ 1048577 := by
 unfold worstP; split
 · split
   · omega
   · unfold allC; exact addC_bd0 (wayV_bd hl _ _ _ _).1 (by omega)
 · omega
theorem task_worst {t : TaskD} {im : ImageD} (h : taskE t im = 0) : (worstP t.code).2 = 0 := by
 unfold taskE at h; split at h
 · assumption
 · exact h
theorem slots_any (v : Value) (im : ImageD) (i : Nat) (t : TaskD) (w : World) (h : ImageAt w v im) (hok : im.ok = true) (hsm : im.small) (him : ImOk im) (ht : im.tasks[i]? = some t) (hE : taskE t im = 0) : Calls Tryz.prog 14 #[v, O Y (i : Int)] w fun e w' => e = .returned (.tuple #[O Y (slotsV t im), O Y 0]) ∧ Below w.heap.size w w' := by
 have hi := (GI.1 ht).1; have htm := LM ht; have hcode := task_code hok hsm htm; have hto := him.tasks t htm; have htl := him.tl; obtain ⟨vs, vb, vt, rfl, h1, h2, h3⟩ := id h; obtain ⟨As, cs, rfl, -⟩ := id h1; obtain ⟨Ak, ck, rfl, -⟩ := id h2; obtain ⟨At, ct, rfl, -⟩ := id h3; have hbl0 := heap_alloc_last w (.cells #[O Y im.sw, O Y im.la, O Y im.co, O Y im.inp, .slice As im.safe.length cs, .slice Ak im.blocks.length ck, .slice At im.tasks.length ct] 26); have al := (BR w.heap.size w).alloc (NR _) (.cells #[O Y im.sw, O Y im.la, O Y im.co, O Y im.inp, .slice As im.safe.length cs, .slice Ak im.blocks.length ck, .slice At im.tasks.length ct] 26); obtain ⟨W1, hW1⟩ : ∃ W1, w.alloc (.cells #[O Y im.sw, O Y im.la, O Y im.co, O Y im.inp, .slice As im.safe.length cs, .slice Ak im.blocks.length ck, .slice At im.tasks.length ct] 26) = W1 := ⟨_, rfl⟩
 rw [hW1] at hbl0 al; have c0 := bk hbl0 0 (O Y im.sw); have c1 := bk hbl0 1 (O Y im.la); have c2 := bk hbl0 2 (O Y im.co); have c3 := bk hbl0 3 (O Y im.inp); have c4 := bk hbl0 4 (.slice As im.safe.length cs); have c5 := bk hbl0 5 (.slice Ak im.blocks.length ck); have c6 := bk hbl0 6 (.slice At im.tasks.length ct); have hC := chk_any _ im i t W1 (h.step al) hok hsm ht (by have := hto.bl; omega) (by have := hto.ol; omega) (by omega); rw [hE] at hC; have hE2 := ZZ (task_worst hE); obtain ⟨ad, rfl, hta⟩ := h3.elem i t ht; have b1 : ((i : Nat) : Int) < (im.tasks.length : Int) := by omega
 have b2 : decide (im.tasks.length ≤ i) = false := decide_eq_false (by omega); have b3 : (i : Int) ≤ 8 := by omega
 have hhd := imhead_bd hok; have hwb := worst_bd hcode; replace hC := ZZ hC; replace hta := ZZ hta; replace h := ZZ h; replace hok := ZZ hok; replace hsm := ZZ hsm; replace him := ZZ him; replace hcode := ZZ hcode; replace hE := ZZ hE; replace ht := ZZ ht; replace htm := ZZ htm; replace hi := ZZ hi; replace hhd := ZZ hhd; replace hwb := ZZ hwb; replace hto := ZZ hto; clear h1 h2 h3; go_enter Tryz.func14, Tryz.ntmps14; go_wp2_with fail; refine hC.out.mono ?_; rintro e w2 ⟨rfl, hb2⟩; have hB2 := al.trans (hb2.mono al.size); have hbl2 := ZZ ((hb2.block _ (ltA hbl0)).trans hbl0); clear c0 c1 c2 c3 c4 c5 c6; have c0 := bk hbl2.out 0 (O Y im.sw); have c1 := bk hbl2.out 1 (O Y im.la); have c2 := bk hbl2.out 2 (O Y im.co); have c3 := bk hbl2.out 3 (O Y im.inp); have c4 := bk hbl2.out 4 (.slice As im.safe.length cs); have c5 := bk hbl2.out 5 (.slice Ak im.blocks.length ck); have c6 := bk hbl2.out 6 (.slice (some ad) im.tasks.length ct); obtain ⟨vb', vo', vc', t0, t1, t2, t3, t4, t5, t6, q1, q2, q3⟩ := hta.out.step hB2; obtain ⟨Ac, cc, rfl, -⟩ := id q3; replace hB2 := ZZ hB2; clear q1 q2 hC hb2 al hW1 hbl0 hta; have hWo := worst_any _ t.code w2 q3 hcode.out; rw [hE2.out] at hWo; have hS := ZZ (show slotsV t im = im.sw + im.la + (worstP t.code).1 + im.co + im.sw from rfl); generalize (worstP t.code).1 = n at *; obtain ⟨x1, e1⟩ : ∃ x, im.sw + im.la = x := ⟨_, rfl⟩
 obtain ⟨x2, e2⟩ : ∃ x, x1 + n = x := ⟨_, rfl⟩
 obtain ⟨x3, e3⟩ : ∃ x, x2 + im.co = x := ⟨_, rfl⟩
 obtain ⟨x4, e4⟩ : ∃ x, x3 + im.sw = x := ⟨_, rfl⟩
 have hbb : (0 ≤ x1 ∧ x1 ≤ 1000) ∧ (0 ≤ x2 ∧ x2 ≤ 2000000) ∧ (0 ≤ x3 ∧ x3 ≤ 2000000) ∧ (0 ≤ x4 ∧ x4 ≤ 2000000) := by
  have g1 := hhd.out; have g2 := hwb.out; omega
 have hS2 := ZZ (show slotsV t im = x4 by rw [hS.out, e1, e2, e3, e4]); have w1 : wrap64 x1 = x1 := wrapIn (by omega); have w2' : wrap64 x2 = x2 := wrapIn (by clear w1; omega); have w3 : wrap64 x3 = x3 := wrapIn (by clear w1 w2'; omega); have w4 : wrap64 x4 = x4 := wrapIn (by clear w1 w2' w3; omega); replace hWo := ZZ hWo; replace hbb := ZZ hbb; go_wp2_with fail; refine hWo.out.mono ?_; rintro e w5 ⟨rfl, hb5⟩; have hB5 := ZZ (hB2.out.trans (hb5.mono hB2.out.size)); have hbl5 := (hb5.block _ (ltA hbl2.out)).trans hbl2.out; clear c0 c1 c2 c3 c4 c5 c6; have c0 := bk hbl5 0 (O Y im.sw); have c1 := bk hbl5 1 (O Y im.la); have c2 := bk hbl5 2 (O Y im.co); clear hWo hb5 t0 t1 t2 t3 t4 t5 t6 q3 hbl5 hS hhd; go_wp2_with fail; refine bodyPost_ret (results_tmp2 rfl _ _ _) rfl ?_; exact ⟨by rw [hS2.out.trans w4.symm]; rfl, hB5.out⟩
theorem secs_get (L : List (Int × Int)) : ∀ (k : Nat) (p : Int × Int), L[k]? = some p → (L.flatMap secE)[k * 2]? = some (O Y p.1) ∧ (L.flatMap secE)[k * 2 + 1]? = some (O Y p.2) := by
 induction L with
 | nil => intro k y h; simp at h
 | cons z l ih =>
  intro k y h; rw [List.flatMap_cons]; have e : (secE z).length = 2 := rfl; cases k with
  | zero =>
   rw [List.getElem?_cons_zero] at h; injection h with h
   subst h; exact ⟨rfl, rfl⟩
  | succ k =>
   rw [List.getElem?_cons_succ] at h; have := ih k y h; refine ⟨?_, ?_⟩
   · rw [List.getElem?_append_right (by omega), e, show (k + 1) * 2 - 2 = k * 2 by omega]; exact this.1
   · rw [List.getElem?_append_right (by omega), e, show (k + 1) * 2 + 1 - 2 = k * 2 + 1 by omega]; exact this.2
theorem SecAt.at {w : World} {A : Option Addr} {n c : Nat} {L : List (Int × Int)} (h : RowAt w (.slice A n c) n (L.flatMap secE)) (j : Nat) (p : Int × Int) (hj : L[j]? = some p) : ∃ ad, A = some ad ∧ w.cell? (ad.add (j * 2)) = some (O Y p.1) ∧ w.cell? ⟨(ad.add (j * 2)).block, (ad.add (j * 2)).off + 1, none⟩ = some (O Y p.2) := by
 obtain ⟨A', c', e, _, _, h3⟩ := h; injection e with e1 e2 e3
 subst e1; obtain ⟨p0, p1⟩ := secs_get L j p hj; obtain ⟨ad, rfl, q0⟩ := h3 _ _ p0; obtain ⟨ad1, e1, q1⟩ := h3 _ _ p1; injection e1 with e1
 subst e1; rw [add_next] at q1; exact ⟨_, rfl, q0, q1⟩
def lensP (t : TaskD) : List Int := (sectsP t.code).map Prod.snd
def LcRel (w : World) (S : List (Int × Int)) (vo vi : Value) (wr : World) : Prop := ∃ k : Nat, k ≤ S.length ∧ vi = O Y k ∧ LRow wr w.heap.size 3 1 vo k (((S.map Prod.snd).take k).map (O Y)) ∧ Below w.heap.size w wr
theorem locked_any (v : Value) (im : ImageD) (i : Nat) (t : TaskD) (w : World) (h : ImageAt w v im) (hok : im.ok = true) (hsm : im.small) (him : ImOk im) (ht : im.tasks[i]? = some t) (hE : taskE t im = 0) : Calls Tryz.prog 12 #[v, O Y (i : Int)] w fun e w' => (∃ vo, e = .returned (.tuple #[vo, O Y 0]) ∧ LRow w' w.heap.size 3 1 vo (lensP t).length ((lensP t).map (O Y)) ∧ (lensP t).length ≤ 200) ∧ Below w.heap.size w w' := by
 have hi := (GI.1 ht).1; have htm := LM ht; have hcode := task_code hok hsm htm; have hto := him.tasks t htm; have htl := him.tl; obtain ⟨vs, vb, vt, rfl, h1, h2, h3⟩ := id h; obtain ⟨As, cs, rfl, -⟩ := id h1; obtain ⟨Ak, ck, rfl, -⟩ := id h2; obtain ⟨At, ct, rfl, -⟩ := id h3; have hbl0 := heap_alloc_last w (.cells #[O Y im.sw, O Y im.la, O Y im.co, O Y im.inp, .slice As im.safe.length cs, .slice Ak im.blocks.length ck, .slice At im.tasks.length ct] 26); have al := (BR w.heap.size w).alloc (NR _) (.cells #[O Y im.sw, O Y im.la, O Y im.co, O Y im.inp, .slice As im.safe.length cs, .slice Ak im.blocks.length ck, .slice At im.tasks.length ct] 26); obtain ⟨W1, hW1⟩ : ∃ W1, w.alloc (.cells #[O Y im.sw, O Y im.la, O Y im.co, O Y im.inp, .slice As im.safe.length cs, .slice Ak im.blocks.length ck, .slice At im.tasks.length ct] 26) = W1 := ⟨_, rfl⟩
 rw [hW1] at hbl0 al; have c0 := bk hbl0 0 (O Y im.sw); have c1 := bk hbl0 1 (O Y im.la); have c2 := bk hbl0 2 (O Y im.co); have c3 := bk hbl0 3 (O Y im.inp); have c4 := bk hbl0 4 (.slice As im.safe.length cs); have c5 := bk hbl0 5 (.slice Ak im.blocks.length ck); have c6 := bk hbl0 6 (.slice At im.tasks.length ct); have hC := chk_any _ im i t W1 (h.step al) hok hsm ht (by have := hto.bl; omega) (by have := hto.ol; omega) (by omega); rw [hE] at hC; have hE2 := ZZ (task_worst hE); obtain ⟨ad, rfl, hta⟩ := h3.elem i t ht; have b1 : ((i : Nat) : Int) < (im.tasks.length : Int) := by omega
 have b2 : decide (im.tasks.length ≤ i) = false := decide_eq_false (by omega); have b3 : (i : Int) ≤ 8 := by omega
 have hhd := imhead_bd hok; have hwb := worst_bd hcode; replace hC := ZZ hC; replace hta := ZZ hta; replace h := ZZ h; replace hok := ZZ hok; replace hsm := ZZ hsm; replace him := ZZ him; replace hcode := ZZ hcode; replace hE := ZZ hE; replace ht := ZZ ht; replace htm := ZZ htm; replace hi := ZZ hi; replace hhd := ZZ hhd; replace hwb := ZZ hwb; replace hto := ZZ hto; clear h1 h2 h3; go_enter Tryz.func12, Tryz.ntmps12; go_wp2_with fail; refine hC.out.mono ?_; rintro e w2 ⟨rfl, hb2⟩; have hB2 := al.trans (hb2.mono al.size); have hbl2 := ZZ ((hb2.block _ (ltA hbl0)).trans hbl0); clear c0 c1 c2 c3 c4 c5 c6; have c0 := bk hbl2.out 0 (O Y im.sw); have c1 := bk hbl2.out 1 (O Y im.la); have c2 := bk hbl2.out 2 (O Y im.co); have c3 := bk hbl2.out 3 (O Y im.inp); have c4 := bk hbl2.out 4 (.slice As im.safe.length cs); have c5 := bk hbl2.out 5 (.slice Ak im.blocks.length ck); have c6 := bk hbl2.out 6 (.slice (some ad) im.tasks.length ct); obtain ⟨vb', vo', vc', t0, t1, t2, t3, t4, t5, t6, q1, q2, q3⟩ := hta.out.step hB2; obtain ⟨Ac, cc, rfl, -⟩ := id q3; replace hB2 := ZZ hB2; clear q1 q2 hC hb2 al hW1 hbl0 hta; have hSe := sections_any _ t.code w2 q3 hcode.out; rw [hE2.out] at hSe; replace hSe := ZZ hSe; replace hhd := ZZ hhd; go_wp2_with fail; refine hSe.out.mono ?_; rintro e w3 ⟨⟨vs, rfl, hs, -⟩, hb3⟩; obtain ⟨hrow, hsl⟩ := hs (by simp); have hB3 := ZZ (hB2.out.trans (hb3.mono hB2.out.size)); have hL := ZZ (show lensP t = (sectsP t.code).map Prod.snd from rfl); generalize sectsP t.code = S at *; obtain ⟨Av, cv, rfl, hcv, hln, -⟩ := id hrow; replace hrow := ZZ hrow; clear hSe hs hb3 t0 t1 t2 t3 t4 t5 t6 q3; clear c0 c1 c2 c3 c4 c5 c6; have hsl2 : (S.length : Int) ≤ 200 := by omega
 go_wp2_with fail; go_loopw [9, 30] (fun vo vi wr => LcRel w3 S vo vi wr) (fun _ vi _ => S.length - (intOf vi).toNat); case atStart => exact ⟨0, by omega, rfl, LRow.nil _ _ _ _, BR _ _⟩
 case round =>
  obtain ⟨k, hk, rfl, hR, hB⟩ := hrel; obtain ⟨Ar, co, rfl, -⟩ := LRow.slice hR; by_cases hd : k < S.length
  · obtain ⟨p, hp⟩ : ∃ p, S[k]? = some p := ⟨_, GE hd⟩
    have b1 : ((k : Nat) : Int) < (S.length : Int) := by omega
    have b2 : decide (S.length ≤ k) = false := decide_eq_false (by omega); have b3 : (k : Int) ≤ 200 := by omega
    obtain ⟨ad4, rfl, z0, z1⟩ := SecAt.at (RowAt.step hrow.out hB) k p hp; have al := (BR wr.heap.size wr).alloc (NR _) (.cells #[O Y p.1, O Y p.2] 103); have hbx := heap_alloc_last wr (.cells #[O Y p.1, O Y p.2] 103); have y1 := bk hbx 1 (O Y p.2); have hR1 := ZZ (LRow.step hR al); have hB1 := ZZ (hB.alloc hB.size (.cells #[O Y p.1, O Y p.2] 103)); have htk : (((S.map Prod.snd).take (k + 1)).map (O Y)) = ((S.map Prod.snd).take k).map (O Y) ++ [O Y p.2] := by
     rw [List.take_add_one, List.getElem?_map, hp]; simp
    replace htk := ZZ htk; replace hd := ZZ hd; obtain ⟨W1, hW1⟩ : ∃ W1, wr.alloc (.cells #[O Y p.1, O Y p.2] 103) = W1 := ⟨_, rfl⟩
    rw [hW1] at y1 hR1 hB1; clear hp hk hR hB al hbx; go_wp2_with (first | (at_builtin; refine wpList_append_one w3 W1 w3.heap.size rfl (.tmp 34) (.tmp 37) 22 3 _ 1 8 rfl Tryz.underlying22 info3T rfl (by decide) (by decide) (.slice Ar k co) k _ _ rfl rfl rfl (by simp [Value.oneCell']) hR1.out hB1.out (NR _) (by omega) ?_; rintro A1 c1' w6 hrow6 hb6 - hg6) | fail)
    exact ⟨⟨k + 1, hd.out, by go_num, by rw [htk.out]; exact hrow6, hb6⟩, by have := hd.out; simp [intOf]; omega⟩
  · have b1 : ¬ (((k : Nat) : Int) < (S.length : Int)) := by omega
    have hke : k = S.length := by omega
    subst hke; rw [List.take_of_length_le (by simp)] at hR; have hro := ZZ (LRow.mono hR hB3.out.size); replace hB := ZZ hB; clear hd hk hR; go_wp2_with fail; refine bodyPost_ret (results_tmp2 rfl _ _ _) rfl ?_; exact ⟨⟨_, rfl, by rw [hL.out]; rw [List.length_map]; exact hro.out, by rw [hL.out, List.length_map]; exact hsl⟩, hB3.out.trans (hB.out.mono hB3.out.size)⟩
structure UseD where
 prio : Int
 blocks : List Int
 lens : List Int
structure UseOk (nb : Nat) (u : UseD) : Prop where
 p1 : 1 ≤ u.prio
 p2 : u.prio ≤ 100
 len : u.lens.length = u.blocks.length
 bl : u.blocks.length ≤ 16
 ris : ∀ i x, u.blocks[i]? = some x → 0 ≤ x ∧ x < (nb : Int) ∧ ∀ y, u.blocks[i + 1]? = some y → x < y
 lb : ∀ n ∈ u.lens, 0 ≤ n ∧ n ≤ 1000000000000
def UseAt (W : World) (v : Value) (u : UseD) : Prop := ∃ Ab An cb cn, v = .agg #[O Y u.prio, .slice Ab u.blocks.length cb, .slice An u.lens.length cn] ∧ IntsAt W (.slice Ab u.blocks.length cb) u.blocks ∧ IntsAt W (.slice An u.lens.length cn) u.lens
def UseCell (W : World) (p : Addr) (u : UseD) : Prop := ∃ Ab An cb cn, W.cell? p = some (O Y u.prio) ∧ W.cell? ⟨p.block, p.off + 1, none⟩ = some (.slice Ab u.blocks.length cb) ∧ W.cell? ⟨p.block, p.off + 2, none⟩ = some (.slice An u.lens.length cn) ∧ IntsAt W (.slice Ab u.blocks.length cb) u.blocks ∧ IntsAt W (.slice An u.lens.length cn) u.lens
def UsesAt (W : World) (v : Value) (L : List UseD) : Prop := ∃ A c, v = .slice A L.length c ∧ L.length ≤ c ∧ ∀ (j : Nat) u, L[j]? = some u → ∃ ad, A = some ad ∧ UseCell W (ad.add (j * 3)) u
theorem UseCell.step {W W1 : World} {p : Addr} {u : UseD} (h : UseCell W p u) (hb : Below W.heap.size W W1) : UseCell W1 p u := by
 obtain ⟨Ab, An, cb, cn, h0, h1, h2, h3, h4⟩ := h; exact ⟨Ab, An, cb, cn, cell_keep hb (NR _) h0, cell_keep hb (NR _) h1, cell_keep hb (NR _) h2, h3.step hb, h4.step hb⟩
theorem UsesAt.step {W W1 : World} {v : Value} {L : List UseD} (h : UsesAt W v L) (hb : Below W.heap.size W W1) : UsesAt W1 v L := by
 obtain ⟨A, c, e, h1, h2⟩ := h; exact ⟨A, c, e, h1, fun j u hj => by
  obtain ⟨ad, h3, h4⟩ := h2 j u hj; exact ⟨ad, h3, h4.step hb⟩⟩
theorem UsesAt.elem {W : World} {A : Option Addr} {n c : Nat} {L : List UseD} (h : UsesAt W (.slice A n c) L) (j : Nat) (u : UseD) (hj : L[j]? = some u) : ∃ ad, A = some ad ∧ UseCell W (ad.add (j * 3)) u := by
 obtain ⟨A', c', e, _, h2⟩ := h; injection e with e1 e2 e3
 subst e1; exact h2 j u hj
def UrRel (u : UseD) (nb : Nat) (w : World) (vl vi : Value) (wr : World) : Prop := ∃ (k : Nat) (last : Int), k ≤ u.blocks.length ∧ vi = O Y k ∧ vl = O Y last ∧ (∀ x, u.blocks[k]? = some x → last < x) ∧ wr = w
theorem uright_any (v : Value) (u : UseD) (nb : Nat) (w : World) (h : UseAt w v u) (hu : UseOk nb u) (hnb : nb ≤ 1000) : Calls Tryz.prog 69 #[v, O Y (nb : Int)] w fun e w' => e = .returned (.bool true) ∧ Below w.heap.size w w' := by
 obtain ⟨Ab, An, cb, cn, rfl, h1, h2⟩ := h; have hbl := heap_alloc_last w (.cells #[O Y u.prio, .slice Ab u.blocks.length cb, .slice An u.lens.length cn] 47); have al := (BR w.heap.size w).alloc (NR _) (.cells #[O Y u.prio, .slice Ab u.blocks.length cb, .slice An u.lens.length cn] 47); obtain ⟨W1, hW1⟩ : ∃ W1, w.alloc (.cells #[O Y u.prio, .slice Ab u.blocks.length cb, .slice An u.lens.length cn] 47) = W1 := ⟨_, rfl⟩
 rw [hW1] at hbl al; have c0 := bk hbl 0 (O Y u.prio); have c1 := bk hbl 1 (.slice Ab u.blocks.length cb); have c2 := bk hbl 2 (.slice An u.lens.length cn); have H1 := ZZ (h1.step al); have H2 := ZZ (h2.step al); have p1 : ¬ (u.prio < 1) := by have := hu.p1; omega
 have p2 : ¬ (100 < u.prio) := by have := hu.p2; omega
 have p3 : ((u.blocks.length : Int) != (u.lens.length : Int)) = false := by rw [hu.len]; simp
 have hb16 := hu.bl; have hll := ZZ hu.len; replace hu := ZZ hu; replace al := ZZ al; replace hbl := ZZ hbl; clear h1 h2; go_enter Tryz.func69, Tryz.ntmps69; go_wp2_with fail; clear p1 p2 p3; go_loopw [5, 28] (fun vl vi wr => UrRel u nb W1 vl vi wr) (fun _ vi _ => u.blocks.length - (intOf vi).toNat); case atStart => exact ⟨0, -1, by omega, rfl, rfl, fun x hx => by have := hu.out.ris 0 x hx; omega, rfl⟩
 case round =>
  obtain ⟨k, last, hk, rfl, rfl, hls, rfl⟩ := hrel; by_cases hd : k < u.blocks.length
  · have b1 : ((k : Nat) : Int) < (u.blocks.length : Int) := by omega
    have b2 : decide (u.blocks.length ≤ k) = false := decide_eq_false (by omega); have hl9 := hll.out; have b3 : ((k : Nat) : Int) < (u.lens.length : Int) := by omega
    have b4 : decide (u.lens.length ≤ k) = false := decide_eq_false (by omega); have b5 : (k : Int) ≤ 16 := by omega
    obtain ⟨x, hx⟩ : ∃ x, u.blocks[k]? = some x := ⟨_, GE hd⟩
    obtain ⟨y, hy⟩ : ∃ y, u.lens[k]? = some y := ⟨_, GE (by omega)⟩
    obtain ⟨ad1, rfl, q1⟩ := H1.out.at k x hx; obtain ⟨ad2, rfl, q2⟩ := H2.out.at k y hy; have hr := hu.out.ris k x hx; have hyb := hu.out.lb y (LM hy); have f1 : ¬ (x ≤ last) := by have := hls x hx; omega
    have f2 : ¬ ((nb : Int) ≤ x) := by omega
    have f3 : ¬ (y < 0) := by omega
    have f4 : ¬ (1099511627776 < y) := by omega
    have hn2 : ∀ z, u.blocks[k + 1]? = some z → x < z := hr.2.2; replace hn2 := ZZ hn2; replace hd := ZZ hd; clear hls hx hy hr hyb hk hl9; go_wp2_with fail; exact ⟨⟨k + 1, x, hd.out, by go_num, rfl, hn2.out, rfl⟩, by have := hd.out; simp [intOf]; omega⟩
  · have b1 : ¬ (((k : Nat) : Int) < (u.blocks.length : Int)) := by omega
    clear hls hd hk; go_wp2_with fail; go_ret; exact ⟨rfl, al.out⟩
def CrRel (w : World) (n : Nat) (vi : Value) (wr : World) : Prop := ∃ k : Nat, k ≤ n ∧ vi = O Y k ∧ Below w.heap.size w wr
theorem cright_any (v : Value) (L : List UseD) (nb : Nat) (w : World) (h : UsesAt w v L) (hu : ∀ u ∈ L, UseOk nb u) (hL : L.length ≤ 8) (hnb : nb ≤ 8) : Calls Tryz.prog 34 #[O Y (nb : Int), v] w fun e w' => e = .returned (.bool true) ∧ Below w.heap.size w w' := by
 obtain ⟨A, c, rfl, hc, _⟩ := id h; have p1 : (0 : Int) ≤ (nb : Int) := by omega
 have p2 : (nb : Int) ≤ 8 := by omega
 have p3 : (L.length : Int) ≤ 8 := by omega
 replace h := ZZ h; replace hu := ZZ hu; go_enter Tryz.func34, Tryz.ntmps34; go_wp2_with fail; go_loopw [9] (fun vi wr => CrRel w L.length vi wr) (fun vi _ => L.length - (intOf vi).toNat); case atStart => exact ⟨0, by omega, rfl, BR _ _⟩
 case round =>
  obtain ⟨k, hk, rfl, hb⟩ := hrel; by_cases hd : k < L.length
  · have b1 : ((k : Nat) : Int) < (L.length : Int) := by omega
    have b2 : decide (L.length ≤ k) = false := decide_eq_false (by omega); have b5 : (k : Int) ≤ 8 := by omega
    obtain ⟨u, hx⟩ : ∃ u, L[k]? = some u := ⟨_, GE hd⟩
    obtain ⟨ad, rfl, Ab, An, cb, cn, c0, c1, c2, h1, h2⟩ := (h.out.step hb).elem k u hx; have al := (BR wr.heap.size wr).alloc (NR _) (.cells #[O Y u.prio, .slice Ab u.blocks.length cb, .slice An u.lens.length cn] 47); have hbx := heap_alloc_last wr (.cells #[O Y u.prio, .slice Ab u.blocks.length cb, .slice An u.lens.length cn] 47); have y0 := bk hbx 0 (O Y u.prio); have y1 := bk hbx 1 (.slice Ab u.blocks.length cb); have y2 := bk hbx 2 (.slice An u.lens.length cn); have hR := ZZ (uright_any _ u nb _ ⟨Ab, An, cb, cn, rfl, h1.step al, h2.step al⟩ (hu.out u (LM hx)) (by omega)); have hB := ZZ (hb.trans (al.mono hb.size)); obtain ⟨W1, hW1⟩ : ∃ W1, wr.alloc (.cells #[O Y u.prio, .slice Ab u.blocks.length cb, .slice An u.lens.length cn] 47) = W1 := ⟨_, rfl⟩
    rw [hW1] at y0 y1 y2 hR hB; replace hd := ZZ hd; clear hx al hbx h1 h2 hk hb; go_wp2_with fail; refine hR.out.mono ?_; rintro e w5 ⟨rfl, hb5⟩; have hB5 := ZZ (hB.out.trans (hb5.mono hB.out.size)); clear hR hb5 y0 y1 y2 c0 c1 c2; go_wp2_with fail; exact ⟨⟨k + 1, hd.out, by go_num, hB5.out⟩, by have := hd.out; simp [intOf]; omega⟩
  · have b1 : ¬ (((k : Nat) : Int) < (L.length : Int)) := by omega
    replace hb := ZZ hb; clear hd hk; go_wp2_with fail; go_ret; exact ⟨rfl, hb.out⟩
section
section
variable {σ : Type}
def foldB (f : σ → UseD → Int → Int → σ) (u : UseD) : List Int → List Int → σ → σ
 | b :: bs, n :: ns, s => foldB f u bs ns (f s u b n)
 | _, _, s => s
def foldL (f : σ → UseD → Int → Int → σ) : List UseD → σ → σ
 | [], s => s
 | u :: r, s => foldL f r (foldB f u u.blocks u.lens s)
theorem foldB_next {f : σ → UseD → Int → Int → σ} {u : UseD} {bl nl : List Int} {j : Nat} {b n : Int} (hb : bl[j]? = some b) (hn : nl[j]? = some n) (s : σ) : foldB f u (bl.drop j) (nl.drop j) s = foldB f u (bl.drop (j + 1)) (nl.drop (j + 1)) (f s u b n) := by
 have h1 := (GI.1 hb).1; have h2 := (GI.1 hn).1; rw [List.drop_eq_getElem_cons h1, List.drop_eq_getElem_cons h2, foldB]; rw [GE h1] at hb; rw [GE h2] at hn; injection hb with hb
 injection hn with hn
 rw [hb, hn]
theorem foldL_next {f : σ → UseD → Int → Int → σ} {L : List UseD} {k : Nat} {u : UseD} (hu : L[k]? = some u) (s : σ) : foldL f (L.drop k) s = foldL f (L.drop (k + 1)) (foldB f u u.blocks u.lens s) := by
 have h1 := (GI.1 hu).1; rw [List.drop_eq_getElem_cons h1, foldL]; rw [GE h1] at hu; injection hu with hu
 rw [hu]
def EoRel (f : σ → UseD → Int → Int → σ) (I : σ → World → Prop) (w : World) (L : List UseD) (s0 : σ) (vi : Value) (wr : World) : Prop := ∃ (k : Nat) (s : σ), k ≤ L.length ∧ vi = O Y k ∧ I s wr ∧ foldL f L s0 = foldL f (L.drop k) s ∧ w.heap.size ≤ wr.heap.size
def EiRel (f : σ → UseD → Int → Int → σ) (I : σ → World → Prop) (w : World) (u : UseD) (s0 : σ) (g : Nat) (cs : Array Value) (vi : Value) (wr : World) : Prop := ∃ (j : Nat) (s : σ), j ≤ u.blocks.length ∧ vi = O Y j ∧ I s wr ∧ foldB f u u.blocks u.lens s0 = foldB f u (u.blocks.drop j) (u.lens.drop j) s ∧ wr.heap[g]? = some (.cells cs 47 (0, 0)) ∧ w.heap.size ≤ wr.heap.size
end
theorem each_any {σ : Type} (f : σ → UseD → Int → Int → σ) (I : σ → World → Prop) (own : List Nat) (F : Nat) (cap : Array Value) (he : ∀ (xs : Array Value) (w : World), (callFunc F xs).run Tryz.prog w = .ok (.enter F xs) w) (w0 w : World) (v : Value) (L : List UseD) (h : UsesAt w0 v L) (hL : L.length ≤ 8) (hok : ∀ u ∈ L, u.lens.length = u.blocks.length ∧ u.blocks.length ≤ 16)
 (hI : ∀ s W, I s W → Below w0.heap.size w0 W) (hst : ∀ s W W', I s W → Below W.heap.size W W' → I s W') (hown : ∀ k ∈ own, k < w.heap.size)
 (hstep : ∀ s u b n W vu, u ∈ L → b ∈ u.blocks → n ∈ u.lens → I s W → UseAt W vu u → Calls Tryz.prog F (#[vu, O Y b, O Y n] ++ cap) W fun e W' => e = .returned (.tuple #[]) ∧ I (f s u b n) W' ∧ Keeps own W W')
 (s0 : σ) (h0 : I s0 w) : Calls Tryz.prog 36 #[v, .func (.func F) #[] cap] w fun e W' => e = .returned (.tuple #[]) ∧ I (foldL f L s0) W' ∧ w.heap.size ≤ W'.heap.size := by
 obtain ⟨A, c, rfl, hc, _⟩ := id h; replace h := ZZ h; replace hI := ZZ hI; replace hst := ZZ hst; replace hown := ZZ hown; replace hstep := ZZ hstep; replace hok := ZZ hok; have he' := ZZ he; clear he; go_enter Tryz.func36, Tryz.ntmps36; go_wp2_with fail; go_loopw [10] (fun vi wr => EoRel f I w L s0 vi wr) (fun vi _ => L.length - (intOf vi).toNat); case atStart => exact ⟨0, s0, by omega, rfl, h0, rfl, NR _⟩
 case round =>
  obtain ⟨k, s, hk, rfl, hs, heq, hsz⟩ := hrel; by_cases hd : k < L.length
  · have b1 : ((k : Nat) : Int) < (L.length : Int) := by omega
    have b2 : decide (L.length ≤ k) = false := decide_eq_false (by omega); have b5 : (k : Int) ≤ 8 := by omega
    obtain ⟨u, hx⟩ : ∃ u, L[k]? = some u := ⟨_, GE hd⟩
    have hum := LM hx; obtain ⟨ad, rfl, Ab, An, cb, cn, c00, c10, c20, h1, h2⟩ := h.out.elem k u hx; have hbs := hI.out s wr hs; have c0 := cell_keep hbs (NR _) c00; have c1 := cell_keep hbs (NR _) c10; have c2 := cell_keep hbs (NR _) c20; clear c00 c10 c20 hbs; have al := (BR wr.heap.size wr).alloc (NR _) (.cells #[O Y u.prio, .slice Ab u.blocks.length cb, .slice An u.lens.length cn] 47); have hbx := heap_alloc_last wr (.cells #[O Y u.prio, .slice Ab u.blocks.length cb, .slice An u.lens.length cn] 47); have y1 := bk hbx 1 (.slice Ab u.blocks.length cb); have hs1 := hst.out s _ _ hs al; have H1 := ZZ h1; have H2 := ZZ h2; have hsz1 : w.heap.size ≤ (wr.alloc (.cells #[O Y u.prio, .slice Ab u.blocks.length cb, .slice An u.lens.length cn] 47)).heap.size := by simp; omega
    have hlb := hok.out u hum; obtain ⟨g5, hg5⟩ : ∃ g5, wr.heap.size = g5 := ⟨_, rfl⟩
    have hg5w : w.heap.size ≤ g5 := by omega
    obtain ⟨W1, hW1⟩ : ∃ W1, wr.alloc (.cells #[O Y u.prio, .slice Ab u.blocks.length cb, .slice An u.lens.length cn] 47) = W1 := ⟨_, rfl⟩
    rw [hW1, hg5] at y1 hbx; rw [hW1] at hs1 hsz1; have hb16 : (u.blocks.length : Int) ≤ 16 := by omega
    have heq2 := ZZ (heq.trans (foldL_next hx s)); have hu0 := ZZ (hI.out s wr hs); replace hbx := ZZ hbx; replace hum := ZZ hum; replace hd := ZZ hd; replace hx := ZZ hx; replace hlb := ZZ hlb; replace hsz := ZZ hsz; replace hg5w := ZZ hg5w; clear al heq hk h1 h2 hs; replace hs1 := ZZ hs1; replace hsz1 := ZZ hsz1; replace hW1 := ZZ hW1; replace hg5 := ZZ hg5; have y1r := y1; rw [← hW1.out, ← hg5.out] at y1; go_wp2_with fail; rw [hW1.out, hg5.out]; clear y1; replace y1r := ZZ y1r; go_loopw [17] (fun vi wr => EiRel f I w u s g5 #[O Y u.prio, .slice Ab u.blocks.length cb, .slice An u.lens.length cn] vi wr) (fun vi _ => u.blocks.length - (intOf vi).toNat); case atStart => exact ⟨0, s, by omega, rfl, hs1.out, rfl, hbx.out, hsz1.out⟩
    case round =>
     obtain ⟨j, s2, hj, rfl, hs2, heq3, hg, hszi⟩ := hrel; by_cases hdj : j < u.blocks.length
     · have d1 : ((j : Nat) : Int) < (u.blocks.length : Int) := by omega
       have d2 : decide (u.blocks.length ≤ j) = false := decide_eq_false (by omega); have hlj := hlb.out.1; have d3 : ((j : Nat) : Int) < (u.lens.length : Int) := by omega
       have d4 : decide (u.lens.length ≤ j) = false := decide_eq_false (by omega); have d5 : (j : Int) ≤ 16 := by omega
       obtain ⟨b, hb⟩ : ∃ b, u.blocks[j]? = some b := ⟨_, GE hdj⟩
       obtain ⟨n, hn⟩ : ∃ n, u.lens[j]? = some n := ⟨_, GE (by omega)⟩
       have hbi := hI.out s2 _ hs2; have hsd := hst.out s2 _ _ hs2 (BR _ _).drew; have hbid := hI.out s2 _ hsd; obtain ⟨ad2, rfl, q1⟩ := (H1.out.step hbi).at j b hb; obtain ⟨ad3, rfl, q2⟩ := (H2.out.step hbi).at j n hn; have hC := ZZ (hstep.out s2 u b n _ _ hum.out (LM hb) (LM hn) hsd ⟨some ad2, some ad3, cb, cn, rfl, H1.out.step hbid, H2.out.step hbid⟩); have heq4 := ZZ (heq3.trans (foldB_next hb hn s2)); have y0 := bk hg 0 (O Y u.prio); have y1 := bk hg 1 (.slice (some ad2) u.blocks.length cb); have y2 := bk hg 2 (.slice (some ad3) u.lens.length cn); have hgd : wr.drew.heap[g5]? = _ := hg; have hszd : w.heap.size ≤ wr.drew.heap.size := hszi; have he := he'.out; replace hgd := ZZ hgd; replace hszd := ZZ hszd; replace hdj := ZZ hdj; clear hb hn hbi hsd hbid heq3 hj hlj hs2 hg hszi; replace he := ZZ he; go_wp2_with fail; replace he := he.out; refine st 9 (S := fun w' => w'.cell? ⟨g5, 0, none⟩ = some (O Y u.prio) ∧ w'.cell? ⟨g5, 1, none⟩ = some (.slice (some ad2) u.blocks.length cb) ∧ w'.cell? ⟨g5, 2, none⟩ = some (.slice (some ad3) u.lens.length cn) ∧ w'.cell? (ad3.add j) = some (O Y n)) (ds := [8]) ⟨y0, y1, y2, q2⟩ (fun hHeld => ?_); generalize wr.drew = u0 at *; refine pq 0 ?_; refine pq 2 ?_; refine pq 3 ?_; refine pq 5 ?_; refine tk 1 hHeld ?_; refine tk 4 hHeld ?_; refine pq 6 ?_; refine tk 7 hHeld ?_; refine rg2 8 (fun K hK => ?_); refine call_ F (#[.agg #[O Y u.prio, .slice (some ad2) u.blocks.length cb, .slice (some ad3) u.lens.length cn], O Y b, O Y n] ++ cap) (by rfl) rfl ?_ ?_
       · unfold execOp; simp [resolve, Deferred.ofValue, invoke, Act.eval, he]
       refine hC.out.mono ?_; rintro e w5 ⟨rfl, hI5, hk5⟩; refine ⟨_, rfl, ?_⟩; refine hK.out _ _ ?_; clear hK K; refine nm ?_; refine dn ?_; have hg6 := ZZ ((hk5.block g5 (ltA hgd.out) (fun hm => by have := hown.out g5 hm; have := hg5w.out; omega)).trans hgd.out); have hsz6 := ZZ (Nat.le_trans hszd.out hk5.size); replace hI5 := ZZ hI5; clear hk5 hC y0 y1 y2 q1 q2 hHeld he; go_wp2_with fail; exact ⟨⟨j + 1, _, hdj.out, by go_num, hI5.out, heq4.out, hg6.out, hsz6.out⟩, by have := hdj.out; simp [intOf]; omega⟩
     · have d1 : ¬ (((j : Nat) : Int) < (u.blocks.length : Int)) := by omega
       have hlj := hlb.out.1; have hend : foldB f u u.blocks u.lens s = s2 := by rw [heq3, List.drop_of_length_le (by omega), List.drop_of_length_le (by omega)]; rfl
       have heq5 := heq2.out; rw [hend] at heq5; replace heq5 := ZZ heq5; replace hs2 := ZZ hs2; replace hszi := ZZ hszi; clear heq3 hend hg hj hlj hdj; go_wp2_with fail; exact ⟨⟨k + 1, s2, hd.out, by go_num, hs2.out, heq5.out, hszi.out⟩, by have := hd.out; simp [intOf]; omega⟩
  · have b1 : ¬ (((k : Nat) : Int) < (L.length : Int)) := by omega
    rw [List.drop_of_length_le (by omega), foldL] at heq; replace heq := ZZ heq; replace hs := ZZ hs; replace hsz := ZZ hsz; clear hd hk; go_wp2_with fail; go_end0; exact ⟨rfl, by rw [heq.out]; exact hs.out, hsz.out⟩
end
end Go.Proofs.YtoopeamoejmjeaaGreat.Tp
