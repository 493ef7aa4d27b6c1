/- Steps of the walk, merged and shortened by a program (fit.py). -/
import Derived.Defers
import Derived.Lib.Hide
import Derived.Shelf.Abstract
import Derived.Sort.BigQuietIn
import Derived.Test.YtoopeamoejmjeaaGreatA01
import Derived.Test.YtoopeamoejmjeaaGreatA04
import Derived.Test.YtoopeamoejmjeaaGreatA14
import Derived.Test.YtoopeamoejmjeaaGreatWCut
set_option linter.unusedVariables false
set_option linter.unusedSimpArgs false
set_option maxRecDepth 100000
set_option maxHeartbeats 4000000
open Nat renaming le_refl → NR
open List renaming getElem?_eq_getElem → GE
open Go.RowKit.Below renaming refl → BR
open ByteArray renaming empty → BE
open List renaming getD_eq_getElem?_getD → GD
open Array renaming mem_of_getElem? → AM
open List renaming mem_of_getElem? → LM
open List renaming getElem?_eq_some_iff → GI
open List renaming map_toArray → MA
open Go.RowKit.Below renaming heap_setCell → BH
open Go.Lib renaming hid → ZZ
open Go.Value renaming int → O
open Go.IntKind renaming i64 → Y
namespace Go.Proofs.YtoopeamoejmjeaaGreat.Tp
open RowKit YtoopeamoejmjeaaGreatW.PrintWords YtoopeamoejmjeaaGreatW.PrintLast YtoopeamoejmjeaaGreatW.PrintMore Tm
theorem info62K : (Tryz.prog.info? 62).map (fun i => (i.zero, i.size, i.bytes)) = some (some (.agg #[.slice none 0 0, .slice none 0 0, O Y 0]), 3, 56) := by kernel_rfl
theorem sE_next (n k : Nat) : sE n (k + 1) = sE n k ++ eS := by
 show (sE n k ++ putS 0) ++ (catS (putS 0) [] ++ putS 0) = sE n k ++ (putS 0 ++ (catS (putS 0) [] ++ putS 0)); rw [ByteArray.append_assoc]
theorem sE_ext (n k : Nat) : ∀ m, ∃ r, sE n (k + m) = sE n k ++ r
 | 0 => ⟨BE, by simp⟩
 | m + 1 => by
  obtain ⟨r, h⟩ := sE_ext n k m; exact ⟨r ++ eS, by rw [← Nat.add_assoc, sE_next, h, ByteArray.append_assoc]⟩
theorem Sub.at_app (a b : ByteArray) : Sub (a ++ b) a.size b := by
 refine ⟨by rw [ByteArray.size_append]; omega, fun i h1 h2 => ?_⟩; rw [ByteArray.getElem_append_right (by omega)]; congr 1; omega
theorem sE_at (n k : Nat) (h : k < n) : Sub (sE n n) (sE n k).size eS := by
 obtain ⟨r, hr⟩ := sE_ext n (k + 1) (n - (k + 1)); rw [show k + 1 + (n - (k + 1)) = n by omega] at hr; rw [hr, sE_next, ByteArray.append_assoc]; exact (Sub.at_app (sE n k) (eS ++ r)).left
theorem sE_zero (n : Nat) : Sub (sE n n) 0 (putS (n : Int)) := by
 obtain ⟨r, hr⟩ := sE_ext n 0 n; rw [Nat.zero_add] at hr; rw [hr]; have h := Sub.at_app BE (sE n 0 ++ r); rw [ByteArray.empty_append] at h; exact h.left
def entU (us : List Value) : List Value := us.flatMap fun u => [.slice none 0 0, u, O Y 0]
def Nils (us : List Value) : Prop := ∀ u ∈ us, ∃ A c, u = .slice A 0 c
theorem keeps_grown {S : List Nat} {W w1 w2 : World} {row : Option Nat} (h : Keeps S W w1) (hg : w1.grownBy w2 row) (hr : ∀ q, row = some q → W.heap.size ≤ q) : Keeps S W w2 :=
 ⟨hg.os.trans h.os, hg.tape.trans h.tape, hg.output.trans h.output, Nat.le_trans h.size hg.size, fun k hk hn => (hg.block k (by have := h.size; omega) (fun e => by have := hr k e.symm; omega)).trans (h.block k hk hn)⟩
def SDecRel (W : World) (g n : Nat) (vl vi : Value) (wr : World) : Prop := ∃ (k : Nat) (us : List Value), k ≤ n ∧ us.length = k ∧ Nils us ∧ vi = O Y k ∧ RsAt wr g (sE n n) (sE n k).size ∧ LRow wr (g + 1) 62 3 vl k (entU us) ∧ Keeps [g] W wr
theorem edec_any (n : Nat) (W : World) (hn : n ≤ 5000) : Calls Tryz.prog 51 #[.string (sE n n)] W fun e w' => ∃ v us, e = .returned (.tuple #[v, O Y 0]) ∧ us.length = n ∧ Nils us ∧ LRow w' W.heap.size 62 3 v n (entU us) ∧ Below W.heap.size W w' := by
 have hsz := sE_size n hn n; have hb0 := (BR W.heap.size W).alloc (NR _) (.cells #[.string (sE n n), O Y 0, O Y 0] 195); have hr0 : RsAt (W.alloc (.cells #[.string (sE n n), O Y 0, O Y 0] 195)) W.heap.size (sE n n) 0 := heap_alloc_new W _; obtain ⟨g, hg⟩ : ∃ g, W.heap.size = g := ⟨_, rfl⟩
 obtain ⟨W0, e0⟩ : ∃ W0, W.alloc (.cells #[.string (sE n n), O Y 0, O Y 0] 195) = W0 := ⟨_, rfl⟩
 rw [e0] at hb0 hr0; rw [hg] at hr0; have hM := ZZ (smany_any g (sE n n) 0 n 5000 W0 hr0 ⟨by omega, by omega⟩ (by omega) (by omega) (sE_zero n) (by omega)); rw [Nat.zero_add] at hM; have hEn := ZZ (fun k w (hk : k < n) hr => ZZ (sentry_any g (sE n n) (sE n k).size w hr (sE_at n k hk) (by omega))); have hsN : ∀ k, (sE n k).size + eS.size = (sE n (k + 1)).size := fun k => by rw [sE_next, ByteArray.size_append]
 have h00 : (putS (n : Int)).size = (sE n 0).size := rfl; rw [h00] at hM; clear h00 hr0; obtain ⟨s, hs⟩ : ∃ s, sE n n = s := ⟨_, rfl⟩
 rw [hs] at hM hEn e0 hsz; rw [hs]; replace hs := ZZ hs; replace hsN := ZZ hsN; replace hsz := ZZ hsz; go_enter Tryz.func51, Tryz.ntmps51; go_wp2_with fail; refine hM.out.mono ?_; rintro e w1 ⟨rfl, hr1, hk1⟩; have hkW1 : Keeps [g] W w1 := (Keeps.of_below hb0 [g]).trans hk1; replace e0 := ZZ e0; clear hM hk1; go_wp2_with fail; go_loopw [5, 11] (fun vl vi wr => SDecRel W g n vl vi wr) (fun _ vi _ => n - (intOf vi).toNat); case atStart => exact ⟨0, [], Nat.zero_le _, rfl, fun u h => by simp at h, rfl, by rw [hs.out]; exact hr1, ⟨rfl, .inl ⟨rfl, rfl⟩⟩, hkW1⟩
 case round =>
  obtain ⟨k, us, hk, hul, hus, rfl, hr, hrow, hkw⟩ := hrel; rw [hs.out] at hr; clear hr1 hkW1; by_cases hlt : k < n
  · obtain ⟨-, -, c2, -⟩ := hr.cells; have b1 : (k : Int) < (n : Int) := by omega
    have hE := ZZ (hEn.out k wr hlt hr).out; obtain ⟨Al, cl, rfl, -⟩ := LRow.slice hrow; replace hr := ZZ hr; replace hrow := ZZ hrow; replace hkw := ZZ hkw; replace hul := ZZ hul; replace hus := ZZ hus; go_wp2_with fail; refine hE.out.mono ?_; rintro e w2 ⟨⟨Aj, cj, rfl⟩, hr2, hk2⟩; have hba := (BR w2.heap.size w2).alloc (NR _) (.cells #[.slice none 0 0, .slice Aj 0 cj, O Y 0] 62); have hr3 := ZZ (hr2.step hba); have hrow3 := ZZ (LRow.step (LRow.keeps hrow.out hk2 (by simp)) hba); have hk3 := ZZ (hkw.out.trans (hk2.trans (Keeps.of_below hba [g]))); have hgl := hr2.lt; replace hgl := ZZ hgl; clear hE hr hrow hkw hr2 hk2 hba c2; go_wp2_with (first | (at_builtin; refine wpList_append_loose (w2.alloc (.cells #[.slice none 0 0, .slice Aj 0 cj, O Y 0] 62)) (g + 1) rfl (.tmp 18) (.tmp 21) 55 62 _ 3 56 rfl Tryz.underlying55 info62K rfl (by decide) (by decide) (.slice Al k cl) k (entU us) [.slice none 0 0, .slice Aj 0 cj, O Y 0] (some ⟨w2.heap.size, 0, none⟩) 1 1 rfl rfl rfl (by simp [Value.oneCell']) hrow3.out (.inr ⟨_, rfl, World.news_of_block (heap_alloc_new w2 _)⟩) (by have := hgl.out; simp; omega) (by omega) ?go) | fail)
    case go =>
     intro v1 w4 hrow4 hg4 hat
     have hr4 : RsAt w4 g s ((sE n k).size + eS.size) := (hg4.block g hr3.out.lt (by intro he; rcases LRow.lt hrow3.out g he.symm with ⟨_, h, _⟩; omega)).trans hr3.out; have hk4 : Keeps [g] W w4 := keeps_grown hk3.out hg4 (fun q hq => by rcases LRow.lt hrow3.out q hq with ⟨_, h, _⟩; omega); replace hr4 := ZZ hr4; replace hk4 := ZZ hk4; obtain ⟨A4, c4, rfl, -⟩ := LRow.slice hrow4; replace hrow4 := ZZ hrow4; clear hg4 hat hr3 hk3 hrow3; go_wp2_with fail; go_roundw; case rel => exact ⟨k + 1, us ++ [.slice Aj 0 cj], by omega, by simp [hul.out], fun u hu => by
      rcases List.mem_append.1 hu with h | h
      · exact hus.out u h
      · rw [List.mem_singleton] at h; exact ⟨Aj, cj, h⟩, by go_num, by rw [hs.out, ← hsN.out]; exact hr4.out, by
      rw [show entU (us ++ [.slice Aj 0 cj]) = entU us ++ [.slice none 0 0, .slice Aj 0 cj, O Y 0] by simp [entU]]; exact hrow4.out, hk4.out⟩
     case measure => simp [intOf]; omega
  · obtain rfl : k = n := by omega
    obtain ⟨-, c1, c2, -⟩ := hr.cells; rw [hs.out] at c1; obtain ⟨A4, c4, rfl, -⟩ := LRow.slice hrow; have hres : LRow wr W.heap.size 62 3 (.slice A4 k c4) k (entU us) := LRow.mono hrow (by omega); have hbel : Below W.heap.size W wr := ⟨hkw.os, hkw.tape, hkw.output, hkw.size, fun j hj => hkw.block j hj (by simp; omega)⟩
    replace hres := ZZ hres; replace hbel := ZZ hbel; replace hul := ZZ hul; replace hus := ZZ hus; clear hr hrow hkw hEn hb0; go_wp2_with fail; go_ret2; exact ⟨_, us, rfl, hul.out, hus.out, hres.out, hbel.out⟩
end Go.Proofs.YtoopeamoejmjeaaGreat.Tp
namespace Go.Proofs.YtoopeamoejmjeaaGreat.Tp
open RowKit YtoopeamoejmjeaaGreatW.PrintWords YtoopeamoejmjeaaGreatW.PrintLast YtoopeamoejmjeaaGreatW.PrintMore Tm
open Rd (z30 S30 enc3 mxp places pickPlace)
section
attribute [local go_sem] Oper.semAt_some
abbrev Du (Q : Int × Int → Prop) := { x : Int × Int // Q x }
theorem lift_du {Q : Int × Int → Prop} (l : List (Int × Int)) (h : ∀ x ∈ l, Q x) : ∃ D : List (Du Q), D.map (·.1) = l := by
 induction l with
 | nil => exact ⟨[], rfl⟩
 | cons x l ih =>
  obtain ⟨D, hD⟩ := ih (fun y hy => h y (List.mem_cons_of_mem _ hy)); exact ⟨⟨x, h x List.mem_cons_self⟩ :: D, by rw [List.map_cons, hD]⟩
def DuE {Q : Int × Int → Prop} (x : Du Q) : Array Value := #[.agg #[O Y x.1.1, O Y x.1.2]]
theorem take_one {α : Type} {l : List α} {k : Nat} {x : α} (h : l[k]? = some x) : l.take (k + 1) = l.take k ++ [x] := by
 rw [List.take_add_one, h]; rfl
theorem enc3_at {l : List S30} {k : Nat} {j : S30} (h : l[k]? = some j) : (l.flatMap enc3)[k * 3]? = some (O Y j.f0) ∧ (l.flatMap enc3)[k * 3 + 1]? = some (O Y j.f1) ∧ (l.flatMap enc3)[k * 3 + 2]? = some (O Y j.f2) := by
 induction l generalizing k with
 | nil => simp at h
 | cons x l ih =>
  rw [List.flatMap_cons]; cases k with
  | zero =>
   simp only [List.getElem?_cons_zero, Option.some.injEq] at h; subst h; exact ⟨rfl, rfl, rfl⟩
  | succ k =>
   rw [List.getElem?_cons_succ] at h; obtain ⟨h0, h1, h2⟩ := ih h; have e : (enc3 x).length = 3 := rfl; refine ⟨?_, ?_, ?_⟩; all_goals rw [List.getElem?_append_right (by omega), e]
   · rwa [show (k + 1) * 3 - 3 = k * 3 by omega]
   · rwa [show (k + 1) * 3 + 1 - 3 = k * 3 + 1 by omega]
   · rwa [show (k + 1) * 3 + 2 - 3 = k * 3 + 2 by omega]
section
variable {w0 w : World} {F : KF} {V : KV} {P : KP} {M : List Asn} (H : Has w0 w (KL F V P ++ M)) (hF : KOk F w0)
include H hF
theorem kopen_in {Q : Int × Int → Prop} (D E : List (Du Q)) (hD : D.map (·.1) = P.jobs.map (fun j => (j.f0, j.f2))) (hE : E.map (·.1) = P.run.toList.map (fun r => (r.j.f0, r.j.f2))) (hl : P.jobs.length ≤ 1000) : HandsOn 3 78 (.pointer (some ⟨F.gp, 0, none⟩)) (DuE (Q := Q)) (D.length + E.length) w := by
 intro l J W hW hJ hY h0; have HW := H.step hW; have c90 := (PQ.tim_at (HW.blk (k := 2) rfl) hF.hm).trans (rfl : _ = some (Value.pointer (some ⟨F.gt, 0, none⟩))); have hWt := ZZ (waitH HW (k := 8) rfl (by simp [Sorted]) (by decide)); replace hJ := ZZ hJ; replace hF := ZZ hF; replace HW := ZZ HW; clear H hW; refine callsIn_of_wp Tryz.func78 rfl trivial ?_ rfl; simp only [Tryz.ntmps78, List.size_toArray, List.length_cons, List.length_nil, Nat.reduceAdd, Nat.reduceSub, Array.replicate_succ, Array.replicate_zero, List.push_toArray, List.append_toArray, List.nil_append, List.cons_append]; gi_wp2_with fail; simp only [List.map_nil, List.length_nil] at hWt; refine ⟨trivial, (callsIn_wide.2 hWt.out).mono ?_⟩; rintro e w1 ⟨A', c', -, rfl, -, hb1⟩; have H1 := HW.out.step hb1; have hJ1 := hJ.out _ _ _ h0 hb1; have c91 := (PQ.wts_at (H1.blk (k := 2) rfl) hF.out.hm).trans (rfl : _ = some (Value.pointer (some ⟨F.gs, 0, none⟩))); obtain ⟨n, hn⟩ : ∃ n, P.jobs.length = n := ⟨_, rfl⟩
 have hAl := allH H1 (k := 0) rfl (by omega); rw [hn] at hAl hl; replace hAl := ZZ hAl; replace H1 := ZZ H1; clear HW hWt hb1 c90 h0; replace hY := ZZ hY; gi_wp2_with fail; gi_loopw [16] (fun vi wr => vi = O Y 0 ∧ wr = w1) (fun _ _ => 0); case atStart => exact ⟨rfl, rfl⟩
 case round =>
  obtain ⟨rfl, rfl⟩ := hrel; gi_wp2_with fail; refine ⟨trivial, (callsIn_wide.2 hAl.out).mono ?_⟩; rintro e w2 ⟨A, c, hc, rfl, hrow, hb2⟩; have H2 := H1.out.step hb2; have hJ2 := hJ.out _ _ _ hJ1 hb2; have hDl : D.length = n := by have h := congrArg List.length hD; rwa [List.length_map, List.length_map, hn] at h
  replace H2 := ZZ H2; replace hrow := ZZ hrow; clear H1 hAl c91 hJ1 hb2; gi_wp2_with fail; gi_loopw [31] (fun vi wr => ∃ k : Nat, k ≤ n ∧ vi = O Y k ∧ J (D.take k) wr ∧ KC w2 wr) (fun vi _ => n - (intOf vi).toNat); case atStart => exact ⟨0, Nat.zero_le _, rfl, hJ2, KC.refl _⟩
  case round =>
   obtain ⟨k, hk, rfl, hJk, hkc⟩ := hrel; by_cases hlt : k < n
   · obtain ⟨j, hj⟩ : ∃ j, P.jobs[k]? = some j := ⟨_, GE (by omega)⟩
     obtain ⟨x, hx⟩ : ∃ x, D[k]? = some x := ⟨_, GE (by omega)⟩
     have hxj : x.1 = (j.f0, j.f2) := by
      have h := congrArg (fun l => l[k]?) hD; simpa [hj, hx] using h
     obtain ⟨b, hA, hcur⟩ : ∃ b, A = some ⟨b, 0, none⟩ ∧ ∃ cur, w2.heap[b]? = some (.cells cur 171 (0, 0)) ∧ ∀ (i : Nat) u, (P.jobs.flatMap enc3)[i]? = some u → cur[i]? = some u := by
      rcases hrow.out.2 with ⟨h, _⟩ | ⟨g, cap, cur, h, h1, h2, h3, h4, h5, h6⟩
      · injection h with _ h _; omega
      · injection h with h _ _
        refine ⟨g, h, cur, h2, fun i u hu => ?_⟩; rw [← h6, List.getElem?_take] at hu; split at hu
        · simpa using hu
        · cases hu
     subst hA; obtain ⟨cur, hb, hcells⟩ := hcur; have hbk := hkc.2 _ _ _ _ hb; obtain ⟨e0, e1, e2⟩ := enc3_at hj; have x0 := (cell_of_row wr b (k * 3) cur 171 (0, 0) hbk).trans (hcells _ _ e0); have x1 := (cell_of_row wr b (k * 3 + 1) cur 171 (0, 0) hbk).trans (hcells _ _ e1); have x2 := (cell_of_row wr b (k * 3 + 2) cur 171 (0, 0) hbk).trans (hcells _ _ e2); have hal := (BR wr.heap.size wr).alloc (NR _) (.cells #[O Y j.f0, O Y j.f1, O Y j.f2] 171); obtain ⟨fn, tmps, assign, body, hy, hR⟩ := hY.out _ x _ (hJ.out _ _ _ hJk hal) (by rw [List.length_take]; omega); simp only [DuE, hxj] at hy; have b1 : (k : Int) < (n : Int) := by omega
     replace hR := ZZ hR; replace hkc := ZZ hkc; replace hal := ZZ hal; replace hx := ZZ hx; clear hj hxj hcells hbk hb e0 e1 e2; gi_wp2_with fail; refine hR.out.mono ?_; rintro e W3 ⟨rfl, hJ3, hk3⟩; gi_wp2_with fail; go_roundw; case rel => exact ⟨k + 1, by omega, by simp, by rw [take_one hx.out]; exact hJ3, (hkc.out.trans (KC.of_below hal.out)).trans hk3⟩
     case measure => simp [intOf]; omega
   · obtain rfl : k = n := by omega
     have hgp := hkc.2 _ _ _ _ (H2.out.blk (k := 2) rfl); have c92 := PQ.runs_at hgp hF.out.hm; have hrw := H2.out.rowK (k := 10) rfl; rw [show D.take k = D by rw [← hDl, List.take_length]] at hJk; cases hrun : P.run with
     | none =>
      rw [hrun] at hrw; obtain ⟨Ar, cr, hv, -⟩ := LRow.slice hrw; rw [show (KQ F V).runs = V.vr from rfl, hv] at c92; replace c92 := c92.trans (rfl : _ = some (Value.slice Ar 0 cr)); clear hrw hgp; replace hkc := ZZ hkc; replace hY := ZZ hY; gi_wp2_with fail; gi_loopw [49] (fun vi wr' => vi = O Y 0 ∧ wr' = wr) (fun _ _ => 0); case atStart => exact ⟨rfl, rfl⟩
      case round =>
       obtain ⟨rfl, rfl⟩ := hrel; gi_wp2_with fail; go_end0; exact ⟨⟨_, rfl⟩, _, hJk⟩
     | some r =>
      obtain ⟨x, hx, rfl⟩ : ∃ x : Du Q, x.1 = (r.j.f0, r.j.f2) ∧ E = [x] := by
       rw [hrun] at hE; cases E with
       | nil => simp at hE
       | cons x E =>
        cases E with
        | nil => simp at hE; exact ⟨x, hE, rfl⟩
        | cons y E => simp at hE
      rw [hrun] at hrw; obtain ⟨gr, cr, hv, cur, hb, hcur⟩ : ∃ gr cr, V.vr = .slice (some ⟨gr, 0, none⟩) 1 cr ∧ ∃ cur, w2.heap[gr]? = some (.cells cur 184 (0, 0)) ∧ ∀ (i : Nat) u, (Value.pointer (some ⟨V.gi, 0, none⟩) :: r.enc)[i]? = some u → cur[i]? = some u := by
       rcases hrw.2 with ⟨_, h⟩ | ⟨g, cap, cur, h, h1, h2, h3, h4, h5, h6⟩
       · cases h
       · refine ⟨g, cap, h, cur, h2, fun i u hu => ?_⟩; rw [show (Value.pointer (some ⟨V.gi, 0, none⟩) :: r.enc) = runC V (some r) from rfl, ← h6, List.getElem?_take] at hu; split at hu
         · simpa using hu
         · cases hu
      rw [show (KQ F V).runs = V.vr from rfl, hv] at c92; replace c92 := c92.trans (rfl : _ = some (Value.slice (some ⟨gr, 0, none⟩) 1 cr)); have hbk := hkc.2 _ _ _ _ hb; have hld : (Instr.loadAt 184 (.pointer (some ⟨gr, 0, none⟩))).run Tryz.prog wr = .ok (.agg #[.pointer (some ⟨V.gi, 0, none⟩), O Y r.j.f0, O Y r.j.f2, O Y r.bg, O Y r.pt, O Y r.ls, O Y 0, O Y 0, O Y 0, O Y 0, O Y 0, O Y 0, O Y 0, O Y 0, O Y 0, O Y 0, O Y 0, O Y 0, O Y 0, O Y 0, O Y 0, O Y 0, .slice none 0 0]) wr := by
       obtain ⟨d, h1, h2⟩ := Option.map_eq_some_iff.1 (show (Tryz.prog.underlying 184).map (·.isRow) = some true by kernel_rfl); exact run_loadAt_mid wr gr 0 184 [.pointer (some ⟨V.gi, 0, none⟩), O Y r.j.f0, O Y r.j.f2, O Y r.bg, O Y r.pt, O Y r.ls, O Y 0, O Y 0, O Y 0, O Y 0, O Y 0, O Y 0, O Y 0, O Y 0, O Y 0, O Y 0, O Y 0, O Y 0, O Y 0, O Y 0, O Y 0, O Y 0, .slice none 0 0] d (fun i u hu => by rw [Nat.zero_add]; exact (cell_of_row wr gr i cur 184 (0, 0) hbk).trans (hcur i u hu)) h1 h2 (by kernel_rfl)
      have hal := (BR wr.heap.size wr).alloc (NR _) (.cells #[.pointer (some ⟨V.gi, 0, none⟩), O Y r.j.f0, O Y r.j.f2, O Y r.bg, O Y r.pt, O Y r.ls, O Y 0, O Y 0, O Y 0, O Y 0, O Y 0, O Y 0, O Y 0, O Y 0, O Y 0, O Y 0, O Y 0, O Y 0, O Y 0, O Y 0, O Y 0, O Y 0, .slice none 0 0] 184); obtain ⟨fn, tmps, assign, body, hy, hR⟩ := hY.out _ x _ (hJ.out _ _ _ hJk hal) (by simp); simp only [DuE, hx] at hy; replace hR := ZZ hR; replace hkc := ZZ hkc; replace hal := ZZ hal; replace hld := ZZ hld; clear hrw hgp hcur hbk hb hx; gi_wp2_with fail; gi_loopw [49] (fun vi wr' => (vi = O Y 0 ∧ wr' = wr) ∨ (vi = O Y 1 ∧ J (D ++ [x]) wr')) (fun vi _ => 1 - (intOf vi).toNat); case atStart => exact .inl ⟨rfl, rfl⟩
      case round =>
       rcases hrel with ⟨rfl, rfl⟩ | ⟨rfl, hJ5⟩
       · have hsn : (Instr.storeAt 184 (.pointer (some ⟨wr.heap.size, 0, none⟩)) (.agg #[.pointer (some ⟨V.gi, 0, none⟩), O Y r.j.f0, O Y r.j.f2, O Y r.bg, O Y r.pt, O Y r.ls, O Y 0, O Y 0, O Y 0, O Y 0, O Y 0, O Y 0, O Y 0, O Y 0, O Y 0, O Y 0, O Y 0, O Y 0, O Y 0, O Y 0, O Y 0, O Y 0, .slice none 0 0])).run Tryz.prog (wr.alloc (.cells #[.pointer none, O Y 0, O Y 0, O Y 0, O Y 0, O Y 0, O Y 0, O Y 0, O Y 0, O Y 0, O Y 0, O Y 0, O Y 0, O Y 0, O Y 0, O Y 0, O Y 0, O Y 0, O Y 0, O Y 0, O Y 0, O Y 0, .slice none 0 0] 184)) = .ok () (wr.alloc (.cells #[.pointer (some ⟨V.gi, 0, none⟩), O Y r.j.f0, O Y r.j.f2, O Y r.bg, O Y r.pt, O Y r.ls, O Y 0, O Y 0, O Y 0, O Y 0, O Y 0, O Y 0, O Y 0, O Y 0, O Y 0, O Y 0, O Y 0, O Y 0, O Y 0, O Y 0, O Y 0, O Y 0, .slice none 0 0] 184)) := store_new_run (by kernel_rfl) (by kernel_rfl) rfl; replace hsn := ZZ hsn; gi_wp2_with (first | (refine wpListIn_load_run rfl 184 (.tmp 51) rfl rfl hld.out ?_) | (refine wpListIn_store_run rfl 184 (.tmp 9) (.tmp 52) rfl rfl rfl hsn.out ?_) | fail)
         refine hR.out.mono ?_; rintro e W3 ⟨rfl, hJ3, hk3⟩; gi_wp2_with fail; go_roundw; case rel => exact .inr ⟨rfl, hJ3⟩
         case measure => simp [intOf]
       · gi_wp2_with fail; go_end0; exact ⟨⟨_, rfl⟩, _, hJ5⟩
end
end
end Go.Proofs.YtoopeamoejmjeaaGreat.Tp
namespace Go.Proofs.YtoopeamoejmjeaaGreat.Tp
open RowKit YtoopeamoejmjeaaGreatW.PrintWords YtoopeamoejmjeaaGreatW.PrintLast YtoopeamoejmjeaaGreatW.PrintMore Tm
theorem wpOpsIn_round {n l₀ : Nat} {P : Program} {ops : Array Oper} {Q : Exit → Act → World → Prop} (hnd : ∀ (i : Nat) o, ops[i]? = some o → ∀ c, o.op ≠ .defer c) : ∀ (L : List Nat) (a : Act) (w : World), wpOpsIn Fence.wide n P ops Q L a w → wpOpsIn (Fence.wide.inRound l₀) n P ops Q L a w
 | [], a, w, h => h
 | i :: L, a, w, h => by
  unfold wpOpsIn at h ⊢; cases ho : ops[i]? with
  | none =>
   rw [ho] at h; exact wpOpsIn_round hnd L a w h
  | some o =>
   rw [ho] at h; dsimp only at h ⊢; split
   · rename_i hw; rw [if_pos hw] at h; have e : ∀ K, o.wpIn (Fence.wide.inRound l₀) n P a w K Q = o.wpIn Fence.wide n P a w K Q := by
      intro K; unfold Oper.wpIn; rw [show (Fence.wide.inRound l₀).round = some l₀ from rfl, Oper.semAt_some l₀ a.eval o (hnd i o ho), show Fence.wide.round = none from rfl, Oper.semAt_none]; rfl
     rw [e]; exact Oper.wpIn_mono (fun a w hh => wpOpsIn_round hnd L a w hh) h
   · rename_i hw; rw [if_neg hw] at h; exact ⟨h.1, wpOpsIn_round hnd L _ _ h.2⟩
def NormQ (Q : Exit → Act → World → Prop) : Exit → Act → World → Prop
 | .normal, a, w => Q .normal a w
 | _, _, _ => False
theorem norm_only {F : Fence} {n : Nat} {P : Program} {c : Code} {Q : Exit → Act → World → Prop} {a : Act} {w : World} (h : c.wpIn F n P (NormQ Q) a w) : c.wpIn F n P Q a w :=
 wpIn_mono h (fun e a' w' hq => by cases e <;> first | exact hq | exact hq.elim)
def noDefer (l : List Oper) : Bool := l.all fun o => match o.op with | .defer _ => false | _ => true
theorem noDefer_at {l : List Oper} (h : noDefer l = true) : ∀ (i : Nat) o, l.toArray[i]? = some o → ∀ c, o.op ≠ .defer c := by
 intro i o ho c hc; have hm : o ∈ l := LM (by simpa using ho); have := List.all_eq_true.1 h o hm; rw [hc] at this; cases this
theorem region_round_quiet {id n l₀ : Nat} {P : Program} {Q : Exit → Act → World → Prop} {a : Act} {w : World} {lst : List Oper} (hm : P.follows .mixedOrders = true) (hB : Region.lexB .any lst.toArray = true) (hnd : noDefer lst = true)
 (h : wpQuietIn Fence.wide n P lst.toArray (fun w' => ∃ k, w' = w.drewN k) (fun a' => ∀ w', (∃ k, w' = w.drewN k) → Q .normal a' w') lst a) : (Code.region id lst.toArray true).wpIn (Fence.wide.inRound l₀) n P Q a w := by
 refine wpIn_region_draw fun t => ?_; simp only [Region.schedule, hm, Bool.true_or, if_true]; refine wpOpsIn_round (noDefer_at hnd) _ _ _ (wpAnyIn_sound _ t _ _ _ ?_); simp only [Region.lexB, Bool.and_eq_true] at hB; refine wpAnyIn_of_quiet (C := fun w' => ∃ k, w' = w.drewN k) (Q := fun a' => ∀ w', (∃ k, w' = w.drewN k) → Q .normal a' w') rfl (fun _ w' hw' h => h w' hw') _ _ _ _ ⟨1, rfl⟩ ?_; have := wpAnyQIn_lex (F := Fence.wide) (n := n) (C := fun w' => ∃ k, w' = w.drewN k) (md := .any) hB.1 lst 0 (Array.replicate lst.toArray.size false) a (by simp) (by simpa using hB.2) h; simpa using this
end Go.Proofs.YtoopeamoejmjeaaGreat.Tp
namespace Go.Proofs.YtoopeamoejmjeaaGreat.Tp
open RowKit YtoopeamoejmjeaaGreatW.PrintWords YtoopeamoejmjeaaGreatW.PrintLast YtoopeamoejmjeaaGreatW.PrintMore Tm
open Rd (z30 S30 enc3 mxp places pickPlace)
section
attribute [local go_sem] Oper.semAt_some
def OkDue (now : Int) (x : Int × Int) : Prop := (x.1 = 0 ∧ 0 ≤ x.2 ∧ x.2 ≤ now ∧ now - x.2 < 50) ∨ (x.1 = 1 ∧ 0 ≤ x.2 ∧ x.2 ≤ now ∧ now - x.2 < 20)
section
variable {w0 W : World} {F : KF} {V : KV} {P : KP} {M : List Asn} (H : Has w0 W (KL F V P ++ M)) (hF : KOk F w0)
include H hF
theorem klate_any {now : Int} (hnow : 0 ≤ now ∧ now ≤ 1000) (hj : ∀ j ∈ P.jobs, OkDue now (j.f0, j.f2)) (hr : ∀ r, P.run = some r → OkDue now (r.j.f0, r.j.f2)) (hl : P.jobs.length ≤ 1000) : Calls Tryz.prog 45 #[.pointer (some ⟨F.gp, 0, none⟩), O Y now] W fun e w' => e = .returned (.tuple #[.agg #[O Y 0, O Y 0], .bool false]) ∧ Has w0 w' (KL F V P ++ M) := by
 obtain ⟨D, hD⟩ := lift_du (Q := OkDue now) (P.jobs.map (fun j => (j.f0, j.f2))) (by simpa using hj); obtain ⟨E, hE⟩ := lift_du (Q := OkDue now) (P.run.toList.map (fun r => (r.j.f0, r.j.f2))) (by simpa using hr); have hH := ((((H.boxed 30 #[.pointer (some ⟨F.gp, 0, none⟩)]).boxed 3 #[O Y now]).boxed 114 #[O Y 0, O Y 0]).boxed 114 #[O Y 0, O Y 0]).boxed 4 #[.bool false]; simp only [World.size_alloc, List.append_assoc, List.cons_append, List.nil_append] at hH; replace hH := ZZ hH; refine (callsIn_wide (n := 4)).1 ?_; refine callsIn_of_wp_marks Tryz.func45 rfl trivial ?_ rfl; simp only [Tryz.ntmps45, List.size_toArray, List.length_cons, List.length_nil, Nat.reduceAdd, Nat.reduceSub, Array.replicate_succ, Array.replicate_zero, List.push_toArray, List.append_toArray, List.nil_append, List.cons_append]; gi_wp2_with fail; obtain ⟨g, hg⟩ : ∃ g, W.heap.size = g := ⟨_, rfl⟩
 have H4 := hH.out; clear hH; obtain ⟨W4, e4⟩ : ∃ W4, ((((W.alloc (.cells #[.pointer (some ⟨F.gp, 0, none⟩)] 30)).alloc (.cells #[O Y now] 3)).alloc (.cells #[O Y 0, O Y 0] 114)).alloc (.cells #[O Y 0, O Y 0] 114)).alloc (.cells #[.bool false] 4) = W4 := ⟨_, rfl⟩
 rw [e4, hg] at H4; rw [e4, hg]; replace e4 := ZZ e4; refine range_bound (n := 4) (gf := 78) (p := .pointer (some ⟨F.gp, 0, none⟩)) (encs := DuE (Q := OkDue now)) (N := D.length + E.length) rfl (enters_of Tryz.func78 (by kernel_rfl) rfl) (fun w' hb => kopen_in (H4.step hb) hF D E hD hE hl) (fun x => rfl)
  (fun x a' W' => ∃ B, W'.heap[B]? = some (.cells #[O Y x.1.1, O Y x.1.2] 114 (0, 0)) ∧ a' = { tmps := #[.pointer (some ⟨F.gp, 0, none⟩), O Y now, .pointer (some ⟨g, 0, none⟩), .pointer (some ⟨g + 1, 0, none⟩), .pointer (some ⟨g + 1 + 1, 0, none⟩), .bool false, .pointer (some ⟨g + 1 + 1 + 1, 0, none⟩), .pointer (some ⟨g + 1 + 1 + 1 + 1, 0, none⟩), .pointer (some ⟨B, 0, none⟩), .pointer (some ⟨F.gp, 0, none⟩), .func (.func 78) #[.pointer (some ⟨F.gp, 0, none⟩)] #[], .agg #[O Y x.1.1, O Y x.1.2], undef, undef, undef, undef, undef, undef, undef, undef, undef, undef, undef, undef, undef, undef, undef, undef, undef, undef, undef, undef, undef, undef, undef, undef, undef, undef, undef, undef, undef, undef, undef, undef, undef, undef, undef, undef, undef, undef, undef, undef, undef], defers := [] })
  (fun x a' A B hx hk => by obtain ⟨b, h1, h2⟩ := hx; exact ⟨b, hk.2 _ _ _ _ h1, h2⟩) ?assign ?body ?done
 case assign =>
  intro l x Wr K hb hK; simp only [DuE]; gi_wp2_with fail; exact hK _ _ ((BR _ _).alloc (NR _) _) ⟨_, heap_alloc_new Wr _, rfl⟩
 case body =>
  rintro l x a' Wr hb ⟨B, hB, rfl⟩; have H5 := H4.step hb; have hBd := hB; have y0 := bk hBd 0 (O Y x.1.1); have y1 := bk hBd 1 (O Y x.1.2); obtain ⟨_, hP1, -⟩ := H5.get (a := boxA g 30 #[.pointer (some ⟨F.gp, 0, none⟩)]) (by simp); obtain ⟨_, hP2, -⟩ := H5.get (a := boxA (g + 1) 3 #[O Y now]) (by simp); have z0 := bk hP1.2 0 (.pointer (some ⟨F.gp, 0, none⟩)); have z1 := bk hP2.2 0 (O Y now); obtain ⟨ad, ct, hvt, htk⟩ := task_im0 (hF.hI.step H5.below) rfl; have c6 := PQ.vt_at (H5.blk (k := 2) rfl)
  rw [show (KQ F V).vt = F.vt from rfl, hvt] at c6; obtain ⟨i, hi, hif, hlt, hn0, hn1⟩ : ∃ i : Nat, i < 2 ∧ x.1.1 = (i : Int) ∧ now - x.1.2 < (if (i : Int) = 0 then 50 else 20) ∧ 0 ≤ x.1.2 ∧ x.1.2 ≤ now := by
   rcases x.2 with ⟨h1, h2, h3, h4⟩ | ⟨h1, h2, h3, h4⟩
   · exact ⟨0, by omega, h1, h4, h2, h3⟩
   · exact ⟨1, by omega, h1, h4, h2, h3⟩
  obtain ⟨-, hdl⟩ := htk i hi; obtain ⟨dv, hdv⟩ : ∃ dv : Int, (if (i : Int) = 0 then (50 : Int) else 20) = dv := ⟨_, rfl⟩
  rw [hdv] at hdl hlt; obtain ⟨t, n⟩ := x; obtain ⟨t, m⟩ := t; dsimp only at *; subst hif; have b6 : (i : Int) < 2 := by omega
  have b7 : decide (2 ≤ i) = false := decide_eq_false (by omega); have hw : IntKind.i64.wrap (now - m) = now - m := by rw [i64_w, wrapIn (by omega)]
  have hmix : Tryz.prog.follows .mixedOrders = true := by kernel_rfl
  clear hn0 hn1; gi_wp2_with fail; refine region_round_quiet hmix (by kernel_rfl) (by kernel_rfl) ?_; repeat (gi_big_quiet_step (fail))
  refine wpQuietIn_nil ?_; rintro w' ⟨q, rfl⟩; gi_wp2_with fail; exact ⟨rfl, rfl, rfl, NR _, fun _ _ => rfl⟩
 case done =>
  intro Dd Wr hd hb hK; have H6 := (H4.step hb).drewK; obtain ⟨_, hP3, -⟩ := H6.get (a := boxA (g + 1 + 1) 114 #[O Y 0, O Y 0]) (by simp); obtain ⟨_, hP4, -⟩ := H6.get (a := boxA (g + 1 + 1 + 1) 114 #[O Y 0, O Y 0]) (by simp); obtain ⟨_, hP5, -⟩ := H6.get (a := boxA (g + 1 + 1 + 1 + 1) 4 #[.bool false]) (by simp); have z0 := bk hP4.2 0 (O Y 0); have z1 := bk hP4.2 1 (O Y 0); have z2 := bk hP5.2 0 (.bool false); have hP3' := hP3.2; have hKd : Wr.drew.heap[Dd]? = some (.deferred (some [])) := hK; have H9 := H4.step ((hb.drew).trans (below_put Dd (.deferred none) hd)); obtain ⟨_, hP9, -⟩ := H9.get (a := boxA (g + 1 + 1) 114 #[O Y 0, O Y 0]) (by simp); replace H9 := ZZ H9; have hs114 : (Tryz.prog.info? 114).map (·.size) = some 2 := by kernel_rfl
  dsimp only; gi_wp2_with fail; refine norm_only (wpIn_wide.2 ?_); refine st 4 (S := fun w' => (w'.cell? ⟨g + 1 + 1 + 1, 0, none⟩ = some (O Y 0) ∧ w'.cell? ⟨g + 1 + 1 + 1, 1, none⟩ = some (O Y 0)) ∧ w'.cell? ⟨g + 1 + 1 + 1 + 1, 0, none⟩ = some (.bool false)) (ds := []) ⟨⟨z0, z1⟩, z2⟩ (fun hHeld => ?_); generalize Wr.drew = u8 at *; refine tk 0 hHeld ?_ (hy := by rintro w' ⟨⟨s0, s1⟩, s2⟩; go_simp; first | with_reducible rfl | rfl); refine tk 1 hHeld ?_ (hy := by rintro w' ⟨⟨s0, s1⟩, s2⟩; go_simp; first | with_reducible rfl | rfl); refine rg1 2 (fun K hK => ?_); refine step_store (by rfl) 114 (.tmp 4) (.tmp 51) rfl rfl (g + 1 + 1) #[O Y 0, O Y 0] rfl rfl 114 _ hP3' (by kernel_rfl) rfl (by kernel_rfl) ?_; rw [setRow_self _ _ _ 114 (0, 0) hP3']; refine hK.out _ _ hHeld (fun hHeld => ?_); clear hK K; refine pq 3 ?_; refine dn ?_; simp only [NormQ]; gi_wp2_with fail; refine ⟨by simp, .inl ⟨_, _, rfl, run_takeDeferred hKd, ?_⟩⟩; exact ⟨_, results_ct rfl _ _ (g + 1 + 1) 114 _ (0, 0) _ rfl hP9.2 Tryz.underlying114 rfl hs114, rfl, hlast_cut H9.out⟩
end
end
section
def mkP (ph : Int) (m : MK) : MK := if ph = 1 then ⟨true, 0, 0⟩ else if ph = 2 then ⟨false, 1, 1⟩ else m
def upR (r : RK) : RK := { r with ph := r.ph + 1, us := r.us + 1 }
def instP (P : KP) (r : RK) : KP := { P with run := some (upR r), a0 := if r.j.f0 = 0 then mkP r.ph P.a0 else P.a0, a1 := if r.j.f0 = 0 then P.a1 else mkP r.ph P.a1 }
def kdP (ph : Int) : Int := if ph = 1 then 1 else if ph = 3 then 4 else 0
def stepP (P : KP) (now : Int) : KP := match P.run with
 | none => P
 | some r => kstepP (instP P r) (upR r) now (kdP r.ph) (r.ph == 4)
def actP (P : KP) : Int := match P.run with
 | none => 0
 | some r => r.j.f1
def canP (P : KP) : Bool := decide (0 < (places P.jobs (mxp P.jobs)).length) && decide (actP P < mxp P.jobs)
def begP (P : KP) (now : Int) : KP := if canP P then { P with jobs := P.jobs.eraseIdx (pickPlace P.jobs 0), run := some (NewR (P.jobs.getD (pickPlace P.jobs 0) z30) now), ev := P.ev ++ [⟨2, (P.jobs.getD (pickPlace P.jobs 0) z30).f0, (P.jobs.getD (pickPlace P.jobs 0) z30).f2, 0⟩] } else P
def tickP (P : KP) : KP := stepP (begP (relK { P with ev := [] } (toldK P.now)) P.now) P.now
def okR (P : KP) (r : RK) : Bool := (decide (r.j.f0 = 0) || decide (r.j.f0 = 1)) && decide (0 ≤ r.ph) && decide (r.ph ≤ 4) && decide (r.lf = 1) && decide (0 ≤ r.us) && decide (r.us ≤ 1000) && decide (0 ≤ r.j.f2) && decide (r.j.f2 ≤ 1000) &&
 (decide (r.ph ≠ 1) || !(if r.j.f0 = 0 then P.a0 else P.a1).on) && (decide (r.ph ≠ 2) || decide ((if r.j.f0 = 0 then P.a0 else P.a1) = ⟨true, 0, 0⟩))
section
variable {w0 W : World} {F : KF} {V : KV} {M : List Asn}
theorem kslot00 {now : Nat} {jobs : List S30} {a0 a1 : MK} {mo : Bool} {ma ms j1 j2 bg pt ls us : Int} {done : List RK} {ev : List EK} (hus : 0 ≤ us ∧ us ≤ 1000) (w : World) (N : List Asn) (H : Has w0 w (KL F V ⟨now, jobs, ⟨mo, ma, ms⟩, a1, some ⟨⟨0, j1, j2⟩, bg, pt, ls, 0, 1, us⟩, done, ev⟩ ++ N)) : Calls Tryz.prog 83 #[.pointer (some ⟨V.gi, 0, none⟩), .pointer (some ⟨F.gp, 25, none⟩), .agg #[O Y 0, O Y 0, O Y 0, O Y 0, O Y 0, O Y 0, O Y 0, O Y 0, O Y 0, O Y 0, O Y 0, O Y 0, O Y 0, O Y 0, O Y 0, O Y 0]] w fun e w' => e = .returned (.tuple #[.agg #[O Y 0, O Y 0, .bool false], O Y 0]) ∧ Has w0 w' (KL F V ⟨now, jobs, ⟨mo, ma, ms⟩, a1, some ⟨⟨0, j1, j2⟩, bg, pt, ls, 1, 1, us + 1⟩, done, ev⟩ ++ N) :=
 (istep_gen (ki := 13) (ph0 := 0) (lf0 := 1) (ph := 0) (nx := 1) (kd := 0) (L2 := KL F V ⟨now, jobs, ⟨mo, ma, ms⟩, a1, some ⟨⟨0, j1, j2⟩, bg, pt, ls, 0, 0, us⟩, done, ev⟩ ++ N) H rfl (by decide) rfl (by simp [KL]) hus (by decide) _ (fun w M hM => (slot0_any (ki := 13) hM rfl _).mono (fun e w' h => ⟨h.1, h.2⟩))).mono (fun e w' h => ⟨h.1, h.2⟩)
theorem kslot01 {now : Nat} {jobs : List S30} {a0 a1 : MK} {mo : Bool} {ma ms j1 j2 bg pt ls us : Int} {done : List RK} {ev : List EK} (hus : 0 ≤ us ∧ us ≤ 1000) (w : World) (N : List Asn) (H : Has w0 w (KL F V ⟨now, jobs, ⟨false, ma, ms⟩, a1, some ⟨⟨0, j1, j2⟩, bg, pt, ls, 1, 1, us⟩, done, ev⟩ ++ N)) : Calls Tryz.prog 83 #[.pointer (some ⟨V.gi, 0, none⟩), .pointer (some ⟨F.gp, 25, none⟩), .agg #[O Y 0, O Y 0, O Y 0, O Y 0, O Y 0, O Y 0, O Y 0, O Y 0, O Y 0, O Y 0, O Y 0, O Y 0, O Y 0, O Y 0, O Y 0, O Y 0]] w fun e w' => e = .returned (.tuple #[.agg #[O Y 1, O Y 0, .bool false], O Y 0]) ∧ Has w0 w' (KL F V ⟨now, jobs, ⟨true, 0, 0⟩, a1, some ⟨⟨0, j1, j2⟩, bg, pt, ls, 2, 1, us + 1⟩, done, ev⟩ ++ N) :=
 (istep_gen (ki := 13) (ph0 := 1) (lf0 := 1) (ph := 1) (nx := 2) (kd := 1) (L2 := KL F V ⟨now, jobs, ⟨true, 0, 0⟩, a1, some ⟨⟨0, j1, j2⟩, bg, pt, ls, 1, 0, us⟩, done, ev⟩ ++ N) H rfl (by decide) rfl (by simp [KL]) hus (by decide) _ (fun w M hM => (slot1_any (ki := 13) (k := 4) (kc := 5) hM (by decide) (by decide) rfl rfl rfl _).mono (fun e w' h => ⟨h.1, h.2⟩))).mono (fun e w' h => ⟨h.1, h.2⟩)
theorem kslot02 {now : Nat} {jobs : List S30} {a0 a1 : MK} {mo : Bool} {ma ms j1 j2 bg pt ls us : Int} {done : List RK} {ev : List EK} (hus : 0 ≤ us ∧ us ≤ 1000) (w : World) (N : List Asn) (H : Has w0 w (KL F V ⟨now, jobs, ⟨true, 0, 0⟩, a1, some ⟨⟨0, j1, j2⟩, bg, pt, ls, 2, 1, us⟩, done, ev⟩ ++ N)) : Calls Tryz.prog 83 #[.pointer (some ⟨V.gi, 0, none⟩), .pointer (some ⟨F.gp, 25, none⟩), .agg #[O Y 0, O Y 0, O Y 0, O Y 0, O Y 0, O Y 0, O Y 0, O Y 0, O Y 0, O Y 0, O Y 0, O Y 0, O Y 0, O Y 0, O Y 0, O Y 0]] w fun e w' => e = .returned (.tuple #[.agg #[O Y 0, O Y 0, .bool false], O Y 0]) ∧ Has w0 w' (KL F V ⟨now, jobs, ⟨false, 1, 1⟩, a1, some ⟨⟨0, j1, j2⟩, bg, pt, ls, 3, 1, us + 1⟩, done, ev⟩ ++ N) :=
 (istep_gen (ki := 13) (ph0 := 2) (lf0 := 1) (ph := 2) (nx := 3) (kd := 0) (L2 := KL F V ⟨now, jobs, ⟨false, 1, 1⟩, a1, some ⟨⟨0, j1, j2⟩, bg, pt, ls, 2, 0, us⟩, done, ev⟩ ++ N) H rfl (by decide) rfl (by simp [KL]) hus (by decide) _ (fun w M hM => (slot2_any (ki := 13) (k := 4) (kc := 5) hM (by decide) rfl rfl rfl _).mono (fun e w' h => ⟨h.1, h.2⟩))).mono (fun e w' h => ⟨h.1, h.2⟩)
theorem kslot03 {now : Nat} {jobs : List S30} {a0 a1 : MK} {mo : Bool} {ma ms j1 j2 bg pt ls us : Int} {done : List RK} {ev : List EK} (hus : 0 ≤ us ∧ us ≤ 1000) (w : World) (N : List Asn) (H : Has w0 w (KL F V ⟨now, jobs, ⟨mo, ma, ms⟩, a1, some ⟨⟨0, j1, j2⟩, bg, pt, ls, 3, 1, us⟩, done, ev⟩ ++ N)) : Calls Tryz.prog 83 #[.pointer (some ⟨V.gi, 0, none⟩), .pointer (some ⟨F.gp, 25, none⟩), .agg #[O Y 0, O Y 0, O Y 0, O Y 0, O Y 0, O Y 0, O Y 0, O Y 0, O Y 0, O Y 0, O Y 0, O Y 0, O Y 0, O Y 0, O Y 0, O Y 0]] w fun e w' => e = .returned (.tuple #[.agg #[O Y 4, O Y 0, .bool false], O Y 0]) ∧ Has w0 w' (KL F V ⟨now, jobs, ⟨mo, ma, ms⟩, a1, some ⟨⟨0, j1, j2⟩, bg, pt, ls, 4, 1, us + 1⟩, done, ev⟩ ++ N) :=
 (istep_gen (ki := 13) (ph0 := 3) (lf0 := 1) (ph := 3) (nx := 4) (kd := 4) (L2 := KL F V ⟨now, jobs, ⟨mo, ma, ms⟩, a1, some ⟨⟨0, j1, j2⟩, bg, pt, ls, 3, 0, us⟩, done, ev⟩ ++ N) H rfl (by decide) rfl (by simp [KL]) hus (by decide) _ (fun w M hM => (slot3_any (ki := 13) hM rfl _).mono (fun e w' h => ⟨h.1, h.2⟩))).mono (fun e w' h => ⟨h.1, h.2⟩)
theorem kslot04 {now : Nat} {jobs : List S30} {a0 a1 : MK} {mo : Bool} {ma ms j1 j2 bg pt ls us : Int} {done : List RK} {ev : List EK} (hus : 0 ≤ us ∧ us ≤ 1000) (w : World) (N : List Asn) (H : Has w0 w (KL F V ⟨now, jobs, ⟨mo, ma, ms⟩, a1, some ⟨⟨0, j1, j2⟩, bg, pt, ls, 4, 1, us⟩, done, ev⟩ ++ N)) : Calls Tryz.prog 83 #[.pointer (some ⟨V.gi, 0, none⟩), .pointer (some ⟨F.gp, 25, none⟩), .agg #[O Y 0, O Y 0, O Y 0, O Y 0, O Y 0, O Y 0, O Y 0, O Y 0, O Y 0, O Y 0, O Y 0, O Y 0, O Y 0, O Y 0, O Y 0, O Y 0]] w fun e w' => e = .returned (.tuple #[.agg #[O Y 0, O Y 0, .bool true], O Y 0]) ∧ Has w0 w' (KL F V ⟨now, jobs, ⟨mo, ma, ms⟩, a1, some ⟨⟨0, j1, j2⟩, bg, pt, ls, 5, 1, us + 1⟩, done, ev⟩ ++ N) :=
 (istep_gen (ki := 13) (ph0 := 4) (lf0 := 1) (ph := 4) (nx := 5) (kd := 0) (L2 := KL F V ⟨now, jobs, ⟨mo, ma, ms⟩, a1, some ⟨⟨0, j1, j2⟩, bg, pt, ls, 4, 0, us⟩, done, ev⟩ ++ N) H rfl (by decide) rfl (by simp [KL]) hus (by decide) _ (fun w M hM => (slot4_any (ki := 13) hM rfl _).mono (fun e w' h => ⟨h.1, h.2⟩))).mono (fun e w' h => ⟨h.1, h.2⟩)
theorem kslot10 {now : Nat} {jobs : List S30} {a0 a1 : MK} {mo : Bool} {ma ms j1 j2 bg pt ls us : Int} {done : List RK} {ev : List EK} (hus : 0 ≤ us ∧ us ≤ 1000) (w : World) (N : List Asn) (H : Has w0 w (KL F V ⟨now, jobs, a0, ⟨mo, ma, ms⟩, some ⟨⟨1, j1, j2⟩, bg, pt, ls, 0, 1, us⟩, done, ev⟩ ++ N)) : Calls Tryz.prog 83 #[.pointer (some ⟨V.gi, 0, none⟩), .pointer (some ⟨F.gp, 25, none⟩), .agg #[O Y 0, O Y 0, O Y 0, O Y 0, O Y 0, O Y 0, O Y 0, O Y 0, O Y 0, O Y 0, O Y 0, O Y 0, O Y 0, O Y 0, O Y 0, O Y 0]] w fun e w' => e = .returned (.tuple #[.agg #[O Y 0, O Y 0, .bool false], O Y 0]) ∧ Has w0 w' (KL F V ⟨now, jobs, a0, ⟨mo, ma, ms⟩, some ⟨⟨1, j1, j2⟩, bg, pt, ls, 1, 1, us + 1⟩, done, ev⟩ ++ N) :=
 (istep_gen (ki := 13) (ph0 := 0) (lf0 := 1) (ph := 0) (nx := 1) (kd := 0) (L2 := KL F V ⟨now, jobs, a0, ⟨mo, ma, ms⟩, some ⟨⟨1, j1, j2⟩, bg, pt, ls, 0, 0, us⟩, done, ev⟩ ++ N) H rfl (by decide) rfl (by simp [KL]) hus (by decide) _ (fun w M hM => (slot0_any (ki := 13) hM rfl _).mono (fun e w' h => ⟨h.1, h.2⟩))).mono (fun e w' h => ⟨h.1, h.2⟩)
theorem kslot11 {now : Nat} {jobs : List S30} {a0 a1 : MK} {mo : Bool} {ma ms j1 j2 bg pt ls us : Int} {done : List RK} {ev : List EK} (hus : 0 ≤ us ∧ us ≤ 1000) (w : World) (N : List Asn) (H : Has w0 w (KL F V ⟨now, jobs, a0, ⟨false, ma, ms⟩, some ⟨⟨1, j1, j2⟩, bg, pt, ls, 1, 1, us⟩, done, ev⟩ ++ N)) : Calls Tryz.prog 83 #[.pointer (some ⟨V.gi, 0, none⟩), .pointer (some ⟨F.gp, 25, none⟩), .agg #[O Y 0, O Y 0, O Y 0, O Y 0, O Y 0, O Y 0, O Y 0, O Y 0, O Y 0, O Y 0, O Y 0, O Y 0, O Y 0, O Y 0, O Y 0, O Y 0]] w fun e w' => e = .returned (.tuple #[.agg #[O Y 1, O Y 0, .bool false], O Y 0]) ∧ Has w0 w' (KL F V ⟨now, jobs, a0, ⟨true, 0, 0⟩, some ⟨⟨1, j1, j2⟩, bg, pt, ls, 2, 1, us + 1⟩, done, ev⟩ ++ N) :=
 (istep_gen (ki := 13) (ph0 := 1) (lf0 := 1) (ph := 1) (nx := 2) (kd := 1) (L2 := KL F V ⟨now, jobs, a0, ⟨true, 0, 0⟩, some ⟨⟨1, j1, j2⟩, bg, pt, ls, 1, 0, us⟩, done, ev⟩ ++ N) H rfl (by decide) rfl (by simp [KL]) hus (by decide) _ (fun w M hM => (slot1_any (ki := 13) (k := 6) (kc := 7) hM (by decide) (by decide) rfl rfl rfl _).mono (fun e w' h => ⟨h.1, h.2⟩))).mono (fun e w' h => ⟨h.1, h.2⟩)
theorem kslot12 {now : Nat} {jobs : List S30} {a0 a1 : MK} {mo : Bool} {ma ms j1 j2 bg pt ls us : Int} {done : List RK} {ev : List EK} (hus : 0 ≤ us ∧ us ≤ 1000) (w : World) (N : List Asn) (H : Has w0 w (KL F V ⟨now, jobs, a0, ⟨true, 0, 0⟩, some ⟨⟨1, j1, j2⟩, bg, pt, ls, 2, 1, us⟩, done, ev⟩ ++ N)) : Calls Tryz.prog 83 #[.pointer (some ⟨V.gi, 0, none⟩), .pointer (some ⟨F.gp, 25, none⟩), .agg #[O Y 0, O Y 0, O Y 0, O Y 0, O Y 0, O Y 0, O Y 0, O Y 0, O Y 0, O Y 0, O Y 0, O Y 0, O Y 0, O Y 0, O Y 0, O Y 0]] w fun e w' => e = .returned (.tuple #[.agg #[O Y 0, O Y 0, .bool false], O Y 0]) ∧ Has w0 w' (KL F V ⟨now, jobs, a0, ⟨false, 1, 1⟩, some ⟨⟨1, j1, j2⟩, bg, pt, ls, 3, 1, us + 1⟩, done, ev⟩ ++ N) :=
 (istep_gen (ki := 13) (ph0 := 2) (lf0 := 1) (ph := 2) (nx := 3) (kd := 0) (L2 := KL F V ⟨now, jobs, a0, ⟨false, 1, 1⟩, some ⟨⟨1, j1, j2⟩, bg, pt, ls, 2, 0, us⟩, done, ev⟩ ++ N) H rfl (by decide) rfl (by simp [KL]) hus (by decide) _ (fun w M hM => (slot2_any (ki := 13) (k := 6) (kc := 7) hM (by decide) rfl rfl rfl _).mono (fun e w' h => ⟨h.1, h.2⟩))).mono (fun e w' h => ⟨h.1, h.2⟩)
theorem kslot13 {now : Nat} {jobs : List S30} {a0 a1 : MK} {mo : Bool} {ma ms j1 j2 bg pt ls us : Int} {done : List RK} {ev : List EK} (hus : 0 ≤ us ∧ us ≤ 1000) (w : World) (N : List Asn) (H : Has w0 w (KL F V ⟨now, jobs, a0, ⟨mo, ma, ms⟩, some ⟨⟨1, j1, j2⟩, bg, pt, ls, 3, 1, us⟩, done, ev⟩ ++ N)) : Calls Tryz.prog 83 #[.pointer (some ⟨V.gi, 0, none⟩), .pointer (some ⟨F.gp, 25, none⟩), .agg #[O Y 0, O Y 0, O Y 0, O Y 0, O Y 0, O Y 0, O Y 0, O Y 0, O Y 0, O Y 0, O Y 0, O Y 0, O Y 0, O Y 0, O Y 0, O Y 0]] w fun e w' => e = .returned (.tuple #[.agg #[O Y 4, O Y 0, .bool false], O Y 0]) ∧ Has w0 w' (KL F V ⟨now, jobs, a0, ⟨mo, ma, ms⟩, some ⟨⟨1, j1, j2⟩, bg, pt, ls, 4, 1, us + 1⟩, done, ev⟩ ++ N) :=
 (istep_gen (ki := 13) (ph0 := 3) (lf0 := 1) (ph := 3) (nx := 4) (kd := 4) (L2 := KL F V ⟨now, jobs, a0, ⟨mo, ma, ms⟩, some ⟨⟨1, j1, j2⟩, bg, pt, ls, 3, 0, us⟩, done, ev⟩ ++ N) H rfl (by decide) rfl (by simp [KL]) hus (by decide) _ (fun w M hM => (slot3_any (ki := 13) hM rfl _).mono (fun e w' h => ⟨h.1, h.2⟩))).mono (fun e w' h => ⟨h.1, h.2⟩)
theorem kslot14 {now : Nat} {jobs : List S30} {a0 a1 : MK} {mo : Bool} {ma ms j1 j2 bg pt ls us : Int} {done : List RK} {ev : List EK} (hus : 0 ≤ us ∧ us ≤ 1000) (w : World) (N : List Asn) (H : Has w0 w (KL F V ⟨now, jobs, a0, ⟨mo, ma, ms⟩, some ⟨⟨1, j1, j2⟩, bg, pt, ls, 4, 1, us⟩, done, ev⟩ ++ N)) : Calls Tryz.prog 83 #[.pointer (some ⟨V.gi, 0, none⟩), .pointer (some ⟨F.gp, 25, none⟩), .agg #[O Y 0, O Y 0, O Y 0, O Y 0, O Y 0, O Y 0, O Y 0, O Y 0, O Y 0, O Y 0, O Y 0, O Y 0, O Y 0, O Y 0, O Y 0, O Y 0]] w fun e w' => e = .returned (.tuple #[.agg #[O Y 0, O Y 0, .bool true], O Y 0]) ∧ Has w0 w' (KL F V ⟨now, jobs, a0, ⟨mo, ma, ms⟩, some ⟨⟨1, j1, j2⟩, bg, pt, ls, 5, 1, us + 1⟩, done, ev⟩ ++ N) :=
 (istep_gen (ki := 13) (ph0 := 4) (lf0 := 1) (ph := 4) (nx := 5) (kd := 0) (L2 := KL F V ⟨now, jobs, a0, ⟨mo, ma, ms⟩, some ⟨⟨1, j1, j2⟩, bg, pt, ls, 4, 0, us⟩, done, ev⟩ ++ N) H rfl (by decide) rfl (by simp [KL]) hus (by decide) _ (fun w M hM => (slot4_any (ki := 13) hM rfl _).mono (fun e w' h => ⟨h.1, h.2⟩))).mono (fun e w' h => ⟨h.1, h.2⟩)
end
end
section
def lastOk (l : List RK) (pt : Int) : Bool := match l.getLast? with
 | none => true
 | some q => decide (q.pt ≤ pt)
def okS (P : KP) (now : Int) : Bool := decide (0 ≤ now) && decide (now ≤ 1000) && decide (P.ev.length ≤ 1000) && decide (P.done.length ≤ 1000) && (match P.run with
 | none => true
 | some r => okR P r && (if r.ph = 4 then decide (0 ≤ r.pt) && lastOk P.done r.pt else decide (r.pt = -1)))
section
variable {w0 W : World} {F : KF} {V : KV} {P : KP} {M : List Asn} (H : Has w0 W (KL F V P ++ M)) (hF : KOk F w0)
include H hF
theorem kstep_none (hr : P.run = none) (now : Int) : Calls Tryz.prog 48 #[.pointer (some ⟨F.gp, 0, none⟩), O Y now] W fun e w' => e = .returned (.tuple #[]) ∧ w' = W := by
 have hT := ZZ (ktop_none H hF.hm hr); clear H hF hr; go_enter Tryz.func48, Tryz.ntmps48; go_wp2_with fail; refine hT.out.mono ?_; rintro e V1 ⟨rfl, rfl⟩; go_wp2_with fail; refine bodyPost_ret (results_none rfl _ _ _) rfl ?_; exact ⟨rfl, rfl⟩
omit H hF in
theorem lastOk_spec {l : List RK} {pt : Int} (h : lastOk l pt = true) : ∀ q, l.getLast? = some q → q.pt ≤ pt := by
 intro q hq; unfold lastOk at h; rw [hq] at h; simpa using h
theorem kstep_ok {now : Int} (ok : okS P now = true) : Calls Tryz.prog 48 #[.pointer (some ⟨F.gp, 0, none⟩), O Y now] W fun e w' => e = .returned (.tuple #[]) ∧ ∃ V, Has w0 w' (KL F V (stepP P now) ++ M) := by
 obtain ⟨nw, jobs, a0, a1, run, done, ev⟩ := P; cases run with
 | none =>
  refine (kstep_none H hF rfl now).mono ?_; rintro e w' ⟨rfl, rfl⟩; exact ⟨rfl, V, H⟩
 | some r =>
  obtain ⟨⟨f0, f1, f2⟩, bg, pt, ls, ph, lf, us⟩ := r; simp only [okS, okR, Bool.and_eq_true, Bool.or_eq_true, decide_eq_true_eq, Bool.not_eq_true'] at ok; obtain ⟨⟨⟨⟨hn0, hn1⟩, hel⟩, hdl⟩, ⟨⟨⟨⟨⟨⟨⟨⟨⟨hf, hp0⟩, hp4⟩, rfl⟩, hu0⟩, hu1⟩, hm0⟩, hm1⟩, hon⟩, hst⟩, hpt⟩ := ok; rcases hf with rfl | rfl
  · rcases (by omega : ph = 0 ∨ ph = 1 ∨ ph = 2 ∨ ph = 3 ∨ ph = 4) with rfl | rfl | rfl | rfl | rfl
    · obtain ⟨mo, ma, ms⟩ := a0; simp at hpt; exact kstep_any H hF rfl rfl (kslot00 (a0 := a1) ⟨hu0, hu1⟩) (.inl ⟨rfl, rfl, hpt⟩) ⟨hn0, hn1⟩ ⟨hm0, hm1⟩ hel hdl (fun h => by cases h)
    · obtain ⟨mo, ma, ms⟩ := a0; obtain rfl : mo = false := by simpa using hon
      simp at hpt; exact kstep_any H hF rfl rfl (kslot01 (a0 := a1) (mo := true) ⟨hu0, hu1⟩) (.inr (.inl ⟨rfl, rfl, hpt⟩)) ⟨hn0, hn1⟩ ⟨hm0, hm1⟩ hel hdl (fun h => by cases h)
    · obtain ⟨mo, ma, ms⟩ := a0; obtain ⟨rfl, rfl, rfl⟩ : mo = true ∧ ma = 0 ∧ ms = 0 := by simpa using hst
      simp at hpt; exact kstep_any H hF rfl rfl (kslot02 (a0 := a1) (mo := true) (ma := 0) (ms := 0) ⟨hu0, hu1⟩) (.inl ⟨rfl, rfl, hpt⟩) ⟨hn0, hn1⟩ ⟨hm0, hm1⟩ hel hdl (fun h => by cases h)
    · obtain ⟨mo, ma, ms⟩ := a0; simp at hpt; exact kstep_any H hF rfl rfl (kslot03 (a0 := a1) ⟨hu0, hu1⟩) (.inr (.inr (.inl ⟨rfl, rfl, hpt, by show (4 : Int) ≤ 3 + 1; decide⟩))) ⟨hn0, hn1⟩ ⟨hm0, hm1⟩ hel hdl (fun h => by cases h)
    · obtain ⟨mo, ma, ms⟩ := a0; simp at hpt; exact kstep_any H hF rfl rfl (kslot04 (a0 := a1) ⟨hu0, hu1⟩) (.inr (.inr (.inr ⟨rfl, rfl, hpt.1, by show (4 : Int) ≤ 4 + 1; decide⟩))) ⟨hn0, hn1⟩ ⟨hm0, hm1⟩ hel hdl (fun _ => lastOk_spec hpt.2)
  · rcases (by omega : ph = 0 ∨ ph = 1 ∨ ph = 2 ∨ ph = 3 ∨ ph = 4) with rfl | rfl | rfl | rfl | rfl
    · obtain ⟨mo, ma, ms⟩ := a1; simp at hpt; exact kstep_any H hF rfl rfl (kslot10 (a1 := a0) ⟨hu0, hu1⟩) (.inl ⟨rfl, rfl, hpt⟩) ⟨hn0, hn1⟩ ⟨hm0, hm1⟩ hel hdl (fun h => by cases h)
    · obtain ⟨mo, ma, ms⟩ := a1; obtain rfl : mo = false := by simpa using hon
      simp at hpt; exact kstep_any H hF rfl rfl (kslot11 (a1 := a0) (mo := true) ⟨hu0, hu1⟩) (.inr (.inl ⟨rfl, rfl, hpt⟩)) ⟨hn0, hn1⟩ ⟨hm0, hm1⟩ hel hdl (fun h => by cases h)
    · obtain ⟨mo, ma, ms⟩ := a1; obtain ⟨rfl, rfl, rfl⟩ : mo = true ∧ ma = 0 ∧ ms = 0 := by simpa using hst
      simp at hpt; exact kstep_any H hF rfl rfl (kslot12 (a1 := a0) (mo := true) (ma := 0) (ms := 0) ⟨hu0, hu1⟩) (.inl ⟨rfl, rfl, hpt⟩) ⟨hn0, hn1⟩ ⟨hm0, hm1⟩ hel hdl (fun h => by cases h)
    · obtain ⟨mo, ma, ms⟩ := a1; simp at hpt; exact kstep_any H hF rfl rfl (kslot13 (a1 := a0) ⟨hu0, hu1⟩) (.inr (.inr (.inl ⟨rfl, rfl, hpt, by show (4 : Int) ≤ 3 + 1; decide⟩))) ⟨hn0, hn1⟩ ⟨hm0, hm1⟩ hel hdl (fun h => by cases h)
    · obtain ⟨mo, ma, ms⟩ := a1; simp at hpt; exact kstep_any H hF rfl rfl (kslot14 (a1 := a0) ⟨hu0, hu1⟩) (.inr (.inr (.inr ⟨rfl, rfl, hpt.1, by show (4 : Int) ≤ 4 + 1; decide⟩))) ⟨hn0, hn1⟩ ⟨hm0, hm1⟩ hel hdl (fun _ => lastOk_spec hpt.2)
end
end
section
def bestP (P : KP) : S30 := P.jobs.getD (pickPlace P.jobs 0) z30
def okB (P : KP) : Bool := decide (P.jobs.length ≤ 1000) && (!canP P || ((match P.run with
 | none => true
 | some _ => false) && (decide ((bestP P).f0 = 0) || decide ((bestP P).f0 = 1)) && !(if (bestP P).f0 = 0 then P.a0 else P.a1).on && decide (P.ev.length ≤ 1000)))
def okDue (now : Int) (x : Int × Int) : Bool := (decide (x.1 = 0) && decide (0 ≤ x.2) && decide (x.2 ≤ now) && decide (now - x.2 < 50)) || (decide (x.1 = 1) && decide (0 ≤ x.2) && decide (x.2 ≤ now) && decide (now - x.2 < 20))
theorem okDue_spec {now : Int} {x : Int × Int} (h : okDue now x = true) : OkDue now x := by
 simp only [okDue, Bool.and_eq_true, Bool.or_eq_true, decide_eq_true_eq] at h; rcases h with ⟨⟨⟨h1, h2⟩, h3⟩, h4⟩ | ⟨⟨⟨h1, h2⟩, h3⟩, h4⟩
 · exact .inl ⟨h1, h2, h3, h4⟩
 · exact .inr ⟨h1, h2, h3, h4⟩
def okL (P : KP) (now : Int) : Bool := decide (0 ≤ now) && decide (now ≤ 1000) && P.jobs.all (fun j => okDue now (j.f0, j.f2)) && decide (P.jobs.length ≤ 1000) && (match P.run with
 | none => true
 | some r => okDue now (r.j.f0, r.j.f2))
def okT (P : KP) : Bool := decide (P.now ≤ 1000) && (left P.now (rel P.now 0 [50, 20] [] [])).isEmpty && (toldK P.now).all (fun d => decide (d.f0 = 0) || decide (d.f0 = 1)) && decide (P.jobs.length + (toldK P.now).length ≤ 1000) && decide ((toldK P.now).length ≤ 1000) &&
 okL (relK { P with ev := [] } (toldK P.now)) P.now && okB (relK { P with ev := [] } (toldK P.now)) && okS (begP (relK { P with ev := [] } (toldK P.now)) P.now) P.now
section
variable {w0 W : World} {F : KF} {V : KV} {P : KP} {M : List Asn} (H : Has w0 W (KL F V P ++ M)) (hF : KOk F w0)
include H hF
omit H in
theorem kact_ok : ∀ w N, Has w0 w (KL F V P ++ N) → Calls Tryz.prog 80 #[.pointer (some ⟨F.gp, 0, none⟩)] w fun e w' => e = .returned (O Y (actP P)) ∧ Has w0 w' (KL F V P ++ N) ∧ Below w.heap.size w w' := by
 intro w N HN; cases hr : P.run with
 | none =>
  refine (kact_none HN hF hr).mono ?_; rintro e w' ⟨rfl, rfl⟩; exact ⟨by unfold actP; rw [hr], HN, BR _ _⟩
 | some r =>
  refine (kact_some HN hF hr).mono ?_; rintro e w' ⟨rfl, hb⟩; exact ⟨by unfold actP; rw [hr], HN.step hb, hb⟩
theorem kbegin_ok {now : Int} (ok : okB P = true) : Calls Tryz.prog 47 #[.pointer (some ⟨F.gp, 0, none⟩), O Y 0, O Y now] W fun e w' => e = .returned (.tuple #[]) ∧ ∃ V, Has w0 w' (KL F V (begP P now) ++ M) := by
 simp only [okB, Bool.and_eq_true, Bool.or_eq_true, decide_eq_true_eq, Bool.not_eq_true'] at ok; obtain ⟨hjl, ok⟩ := ok; cases hcan : canP P with
 | false =>
  have hno : (places P.jobs (mxp P.jobs)).length = 0 ∨ mxp P.jobs ≤ actP P := by
   simp only [canP, Bool.and_eq_false_iff, decide_eq_false_iff_not] at hcan; rcases hcan with h | h
   · exact .inl (by omega)
   · exact .inr (by omega)
  refine (kbegin_any H hF (P2 := P) (a := actP P) (j := z30) (b := false) now (kact_ok hF) (fun w N HN => ?_) (fun h => by cases h)).mono ?_
  · refine (takeNoH HN (k := 0) rfl (by omega) (actP P) 0 hno).mono ?_; rintro e w' ⟨rfl, hb⟩; exact ⟨rfl, HN.step hb, trivial⟩
  · rintro e w' ⟨rfl, h, -⟩; refine ⟨rfl, ?_⟩; unfold begP; rw [hcan]; exact h rfl
 | true =>
  rcases ok with h | ⟨⟨⟨h1, h2⟩, h3⟩, h4⟩
  · rw [hcan] at h; cases h
  have hrun : P.run = none := by
   cases hr : P.run with
   | none => rfl
   | some r => rw [hr] at h1; cases h1
  simp only [canP, Bool.and_eq_true, decide_eq_true_eq] at hcan; refine (kbegin_any H hF (P2 := { P with jobs := P.jobs.eraseIdx (pickPlace P.jobs 0) }) (a := actP P) (j := bestP P) (b := true) now (kact_ok hF) (fun w N HN => ?_) (fun _ => ⟨hrun, h2, h3, h4⟩)).mono ?_
  · refine (takeH HN (k := 0) rfl (by omega) (actP P) 0 hcan.1 hcan.2).mono ?_; rintro e w' ⟨rfl, hb⟩; exact ⟨rfl, hb, trivial⟩
  · rintro e w' ⟨rfl, -, h⟩; refine ⟨rfl, ?_⟩; unfold begP; rw [if_pos (by simp only [canP, Bool.and_eq_true, decide_eq_true_eq]; exact hcan)]; exact h rfl
end
end
section
section
variable {w0 W : World} {F : KF} {V : KV} {P : KP} {M : List Asn} (H : Has w0 W (KL F V P ++ M)) (hF : KOk F w0)
include H hF
theorem ktick_any {A : Option Addr} {c : Nat} (ok : okT P = true) : Calls Tryz.prog 18 #[.pointer (some ⟨F.gp, 0, none⟩), .agg #[.slice none 0 0, .slice A 0 c, O Y 0]] W fun e w' => ∃ V, e = .returned (.tuple #[V.ve, O Y 0]) ∧ Has w0 w' (KL F V (tickP P) ++ M) := by
 simp only [okT, Bool.and_eq_true, decide_eq_true_eq, List.isEmpty_iff, List.all_eq_true, Bool.or_eq_true] at ok; obtain ⟨⟨⟨⟨⟨⟨⟨ho1, ho2⟩, ho3⟩, ho4⟩, ho5⟩, ho6⟩, ho7⟩, ho8⟩ := ok; have H0 := H.boxed 62 #[.slice none 0 0, .slice A 0 c, O Y 0]; rw [List.append_assoc] at H0; obtain ⟨gx, hgx⟩ : ∃ gx, W.heap.size = gx := ⟨_, rfl⟩
 obtain ⟨W0, e0⟩ : ∃ W0, W.alloc (.cells #[.slice none 0 0, .slice A 0 c, O Y 0] 62) = W0 := ⟨_, rfl⟩
 rw [hgx, e0] at H0; have hTh := ZZ (kthere_any H0 hF.hm); have c94 := (PQ.fault_at (H0.blk (k := 2) rfl) hF.hm).trans (rfl : _ = some (Value.bool false)); have f95 := blk_frozen (H0.blk (k := 2) rfl) 95; have c95 := (PQ.ev_at (H0.blk (k := 2) rfl) hF.hm).trans (rfl : _ = some V.ve); have H1 := (hset_ev H0 (k := 2) rfl hF.hm (.slice none 0 0)).nilK (k := 12) rfl; replace H1 : Has w0 (W0.setCell ⟨F.gp, 95, none⟩ (.slice none 0 0)) (KL F { V with ve := .slice none 0 0 } { P with ev := [] } ++ (M ++ [boxA gx 62 #[.slice none 0 0, .slice A 0 c, O Y 0]])) := H1; have c90 := (PQ.tim_at (H1.blk (k := 2) rfl) hF.hm).trans (rfl : _ = some (Value.pointer (some ⟨F.gt, 0, none⟩))); have hNow := ZZ (nowH H1 (k := 8) rfl); obtain ⟨W1, e1⟩ : ∃ W1, W0.setCell ⟨F.gp, 95, none⟩ (.slice none 0 0) = W1 := ⟨_, rfl⟩
 rw [e1] at H1 hNow c90; have y0 := (hlast_cell H1 0).trans (rfl : _ = some (Value.slice none 0 0)); have y1 := (hlast_cell H1 1).trans (rfl : _ = some (Value.slice A 0 c)); have hIn := ZZ (kinputs_any W1 ⟨F.gp, 0, none⟩); have hRel := ZZ (krel_any (A := A) (c := c) H1 hF rfl ho2 ho3 ho1 ho4 (by simpa using ho5)); replace H1 := ZZ H1; replace hF := ZZ hF; replace ho6 := ZZ ho6; replace ho7 := ZZ ho7; replace ho8 := ZZ ho8; clear H H0 ho1 ho2 ho3 ho4 ho5; go_enter Tryz.func18, Tryz.ntmps18; go_wp2_with fail; refine hTh.out.mono ?_; rintro e V1 ⟨rfl, rfl⟩; go_wp2_with fail; refine hNow.out.mono ?_; rintro e V2 ⟨rfl, rfl⟩; go_wp2_with fail; refine hIn.out.mono ?_; rintro e V3 ⟨rfl, rfl⟩; go_wp2_with fail; refine hRel.out.mono ?_; rintro e w5 ⟨rfl, V5, H5⟩; obtain ⟨P5, hP5⟩ : ∃ P5, relK { P with ev := [] } (toldK P.now) = P5 := ⟨_, rfl⟩
 have ho6' := ho6.out; have ho7' := ZZ ho7.out; have ho8' := ZZ ho8.out; rw [hP5] at H5 ho6'; have hP5' := ZZ hP5; replace hP5 := ho7'.out; rw [hP5'.out] at hP5; have ho8b := ho8'.out; rw [hP5'.out] at ho8b; simp only [okL, Bool.and_eq_true, decide_eq_true_eq, List.all_eq_true] at ho6'; obtain ⟨⟨⟨⟨l0, l1⟩, l2⟩, l3⟩, l4⟩ := ho6'; have hLate := ZZ (klate_any H5 hF.out (now := P.now) ⟨l0, l1⟩ (fun j hj => okDue_spec (l2 j hj)) (fun r hr => by rw [hr] at l4; exact okDue_spec l4) l3); replace hP5 := ZZ hP5; replace ho8b := ZZ ho8b; clear hTh hNow hIn hRel ho6 ho7 ho8 ho7' ho8' H5 H1 y0 y1 c94 f95 c95 c90 l0 l1 l2 l3 l4; go_wp2_with fail; refine hLate.out.mono ?_; rintro e w6 ⟨rfl, H6⟩; have H7 := H6.new 114 #[O Y 0, O Y 0]; have z2 := (hlast_cell H7 2).trans (rfl : _ = some (O Y 0)); have hBeg := ZZ (kbegin_ok H7 hF.out (now := P.now) hP5.out); clear hLate H6 H7; go_wp2_with fail; refine hBeg.out.mono ?_; rintro e w8 ⟨rfl, V8, H8⟩; have hSt := ZZ (kstep_ok H8 hF.out (now := P.now) ho8b.out); clear hBeg H8 z2; go_wp2_with fail; refine hSt.out.mono ?_; rintro e w9 ⟨rfl, V9, H9⟩; have c95 := (PQ.ev_at (H9.blk (k := 2) rfl) hF.out.hm).trans (rfl : _ = some V9.ve); have H10 : Has w0 w9 (KL F V9 (tickP P) ++ M) := by
  have h := hlast_cut H9; rw [← hP5'.out] at h; exact h
 replace H10 := ZZ H10; clear hSt H9; go_wp2_with fail; go_ret2; exact ⟨V9, rfl, H10.out⟩
end
end
end Go.Proofs.YtoopeamoejmjeaaGreat.Tp
namespace Go.Proofs.YtoopeamoejmjeaaGreat.Tp
open RowKit Crc YtoopeamoejmjeaaGreatW.PrintWords YtoopeamoejmjeaaGreatW.PrintLast YtoopeamoejmjeaaGreatW.PrintMore Tm
open CrcPlain (crcOn)
open Crc (on_walk)
theorem idx120 (a b c d : Int) (w : World) : (Instr.index 120 (.agg #[O Y a, O Y b, O Y c, O Y d]) (O Y 0)).run Tryz.prog w = .ok (O Y a) w ∧ (Instr.index 120 (.agg #[O Y a, O Y b, O Y c, O Y d]) (O Y 1)).run Tryz.prog w = .ok (O Y b) w ∧ (Instr.index 120 (.agg #[O Y a, O Y b, O Y c, O Y d]) (O Y 2)).run Tryz.prog w = .ok (O Y c) w ∧ (Instr.index 120 (.agg #[O Y a, O Y b, O Y c, O Y d]) (O Y 3)).run Tryz.prog w = .ok (O Y d) w := by
 obtain ⟨i0, hi, hz⟩ := Option.map_eq_some_iff.1 (show (Tryz.prog.info? 3).map (·.size) = some 1 by kernel_rfl); refine ⟨?_, ?_, ?_, ?_⟩ <;> simp [Instr.index, asIntOf, run_underlying Tryz.underlying120, run_underlying Tryz.underlying3, sizeOf, typeInfo, hi, hz, part, isAgg]
structure RP where
 e : Int
 at_ : Int
 sl : Int
 en : Int
 wo : Int
 ev : Int
 sm : Int
def RP.cs (r : RP) : Array Value := #[O Y r.e, O Y r.at_, O Y r.sl, O Y r.en, O Y r.wo, O Y r.ev, O Y r.sm, .bool false, .slice none 0 0]
def cntR (r : RP) (x : EK) (sm : Int) : RP := { r with ev := r.ev + 1, sm := sm, en := if x.k = 8 then r.en + 1 else r.en, wo := if x.k = 8 then max r.wo x.b else r.wo }
def SmE (x : EK) : Prop := (-1000 ≤ x.k ∧ x.k ≤ 1000) ∧ (-1000 ≤ x.t ∧ x.t ≤ 1000) ∧ (-1000 ≤ x.a ∧ x.a ≤ 1000) ∧ (-1000 ≤ x.b ∧ x.b ≤ 1000)
theorem rcount_any {w0 W : World} {L : List Asn} {k gr : Nat} {r : RP} {x : EK} (H : Has w0 W L) (hk : L[k]? = some (boxA gr 70 r.cs)) (hx : SmE x) (hev : 0 ≤ r.ev ∧ r.ev ≤ 1000000) (hen : 0 ≤ r.en ∧ r.en ≤ 1000000) : Calls Tryz.prog 89 #[.pointer (some ⟨gr, 0, none⟩), .agg #[O Y x.k, O Y x.t, O Y x.a, O Y x.b]] W fun e w' => e = .returned (.tuple #[]) ∧ ∃ sm, Has w0 w' (L.set k (boxA gr 70 (cntR r x sm).cs)) := by
 obtain ⟨ek, et, ea, eb⟩ := x; unfold SmE at hx; dsimp only at hx; have hsm := ZZ hx; have H0 := H.boxed 64 #[O Y ek, O Y et, O Y ea, O Y eb]; have hkl : k < L.length := (GI.1 hk).1; obtain ⟨gx, hgx⟩ : ∃ gx, W.heap.size = gx := ⟨_, rfl⟩
 obtain ⟨W0, e0⟩ : ∃ W0, W.alloc (.cells #[O Y ek, O Y et, O Y ea, O Y eb] 64) = W0 := ⟨_, rfl⟩
 rw [hgx, e0] at H0; have c5 := bk (H0.blk (idx_app hk)) 5 (O Y r.ev); have f5 := blk_frozen (H0.blk (idx_app hk)) 5; have H1 := H0.setc (o := 5) (idx_app hk) (O Y (r.ev + 1)); rw [set_app hk] at H1; replace H1 : Has w0 (W0.setCell ⟨gr, 5, none⟩ (O Y (r.ev + 1))) (L.set k (boxA gr 70 ({ r with ev := r.ev + 1 } : RP).cs) ++ [boxA gx 64 #[O Y ek, O Y et, O Y ea, O Y eb]]) := H1; obtain ⟨_, hP, -⟩ := H1.get (a := boxA gx 64 #[O Y ek, O Y et, O Y ea, O Y eb]) (by simp); have x0 := bk hP.2 0 (O Y ek); have x1 := bk hP.2 1 (O Y et); have x2 := bk hP.2 2 (O Y ea); have x3 := bk hP.2 3 (O Y eb); have hw : wrap64 (r.ev + 1) = r.ev + 1 := wrapIn (by omega); replace H1 := ZZ H1; replace hk := ZZ hk; replace hkl := ZZ hkl; replace hev := ZZ hev; replace hen := ZZ hen; clear H H0 hx hP; go_enter Tryz.func89, Tryz.ntmps89; go_wp2_with fail; clear c5 f5 hw x0 x1 x2 x3; go_loopw [22] (fun vi wr => (vi = O Y 0 ∨ vi = O Y 1 ∨ vi = O Y 2 ∨ vi = O Y 3 ∨ vi = O Y 4) ∧ ∃ sm, Has w0 wr (L.set k (boxA gr 70 ({ r with ev := r.ev + 1, sm := sm } : RP).cs) ++ [boxA gx 64 #[O Y ek, O Y et, O Y ea, O Y eb]])) (fun vi _ => 4 - (intOf vi).toNat); case atStart => exact ⟨.inl rfl, r.sm, H1.out⟩
 case round =>
  obtain ⟨hvi, sm, hL⟩ := hrel; have i0 := fun w => (idx120 ek et ea eb w).1; have i1 := fun w => (idx120 ek et ea eb w).2.1; have i2 := fun w => (idx120 ek et ea eb w).2.2.1; have i3 := fun w => (idx120 ek et ea eb w).2.2.2; have hkk : ∀ sm, (L.set k (boxA gr 70 ({ r with ev := r.ev + 1, sm := sm } : RP).cs) ++ [boxA gx 64 #[O Y ek, O Y et, O Y ea, O Y eb]])[k]? = some (boxA gr 70 ({ r with ev := r.ev + 1, sm := sm } : RP).cs) := fun sm => idx_app (idx_set hk.out); replace hkk := ZZ (hkk sm); clear H1; rcases hvi with rfl | rfl | rfl | rfl | rfl
  · skip; have c6 : wr.drew.cell? ⟨gr, 6, none⟩ = some (O Y sm) := (blk_cell (hL.drewK.blk hkk.out) 6).trans rfl; have HR := ZZ hL.drewK; obtain ⟨hnv0, hnv1⟩ : -1000 ≤ ek ∧ ek ≤ 1000 := hsm.out.1; have hnv : -9223372036854775808 ≤ ek ∧ ek < 9223372036854775808 := by omega
    clear hL; go_wp2_with fail; refine st 11 (S := fun w' => w'.cell? ⟨gr, 6, none⟩ = some (O Y sm)) (ds := [7, 10]) c6 (fun hHeld => ?_); generalize wr.drew = wq at *; refine pq 0 ?_; refine pq 1 ?_; refine pq 2 ?_; refine pq 3 ?_; refine pq 5 ?_; refine tk 4 hHeld ?_; refine rg1 6 (fun K hK => ?_); refine goes_ Tryz.func54 (by kernel_rfl) rfl #[O Y ek] (by rfl) rfl rfl (by (try simp only [MA, List.map_cons, List.map_nil]); first | done | rfl) ?_; refine (put_any ek _ hnv).mono ?_; rintro e w5 ⟨rfl, hb5⟩; refine ⟨_, rfl, ?_⟩; replace HR := ZZ (HR.out.step hb5); refine hK.out _ _ (cell_keep hb5 (NR _) hHeld) (fun hHeld => ?_); clear hK K; refine nm ?_; clear hb5; refine rg2 7 (fun K hK => ?_); refine goes_ Tryz.func109 (by kernel_rfl) rfl #[O Y sm, .string (putS ek)] (by rfl) rfl rfl (by (try simp only [MA, List.map_cons, List.map_nil]); first | done | rfl) ?_; refine (on_walk sm (putS ek) _ (by have := putS_size ek hnv; omega)).mono ?_; rintro e w6 ⟨rfl, hb6⟩; refine ⟨_, rfl, ?_⟩; replace HR := ZZ (HR.out.step hb6); have f6 := blk_frozen (HR.out.blk hkk.out) 6; have c6' := bk (HR.out.blk hkk.out) 6 (O Y sm); refine hK.out _ _ ?_; clear hK K; refine nm ?_; refine pq 8 ?_; refine pq 9 ?_; refine rg2 10 (fun K hK => ?_); refine skip_ (w1 := ?_) (by rfl) rfl ?_ ?_; rotate_left
    · go_simp; rfl
    refine hK.out _ _ ?_; clear hK K; refine dn ?_; have h := HR.out.setc (o := 6) hkk.out (O Y (crcOn sm (putS ek))); rw [set_app (idx_set hk.out), List.set_set] at h; replace h : Has w0 (w6.setCell ⟨gr, 6, none⟩ (O Y (crcOn sm (putS ek)))) (L.set k (boxA gr 70 ({ r with ev := r.ev + 1, sm := crcOn sm (putS ek) } : RP).cs) ++ [boxA gx 64 #[O Y ek, O Y et, O Y ea, O Y eb]]) := h; replace h := ZZ h; clear c6' f6 hHeld; go_wp2_with fail; go_roundw; case rel => exact ⟨.inr (.inl rfl), crcOn sm (putS ek), h.out⟩
    case measure => simp [intOf]
  · skip; have c6 : wr.drew.cell? ⟨gr, 6, none⟩ = some (O Y sm) := (blk_cell (hL.drewK.blk hkk.out) 6).trans rfl; have HR := ZZ hL.drewK; obtain ⟨hnv0, hnv1⟩ : -1000 ≤ et ∧ et ≤ 1000 := hsm.out.2.1; have hnv : -9223372036854775808 ≤ et ∧ et < 9223372036854775808 := by omega
    clear hL; go_wp2_with fail; refine st 11 (S := fun w' => w'.cell? ⟨gr, 6, none⟩ = some (O Y sm)) (ds := [7, 10]) c6 (fun hHeld => ?_); generalize wr.drew = wq at *; refine pq 0 ?_; refine pq 1 ?_; refine pq 2 ?_; refine pq 3 ?_; refine pq 5 ?_; refine tk 4 hHeld ?_; refine rg1 6 (fun K hK => ?_); refine goes_ Tryz.func54 (by kernel_rfl) rfl #[O Y et] (by rfl) rfl rfl (by (try simp only [MA, List.map_cons, List.map_nil]); first | done | rfl) ?_; refine (put_any et _ hnv).mono ?_; rintro e w5 ⟨rfl, hb5⟩; refine ⟨_, rfl, ?_⟩; replace HR := ZZ (HR.out.step hb5); refine hK.out _ _ (cell_keep hb5 (NR _) hHeld) (fun hHeld => ?_); clear hK K; refine nm ?_; clear hb5; refine rg2 7 (fun K hK => ?_); refine goes_ Tryz.func109 (by kernel_rfl) rfl #[O Y sm, .string (putS et)] (by rfl) rfl rfl (by (try simp only [MA, List.map_cons, List.map_nil]); first | done | rfl) ?_; refine (on_walk sm (putS et) _ (by have := putS_size et hnv; omega)).mono ?_; rintro e w6 ⟨rfl, hb6⟩; refine ⟨_, rfl, ?_⟩; replace HR := ZZ (HR.out.step hb6); have f6 := blk_frozen (HR.out.blk hkk.out) 6; have c6' := bk (HR.out.blk hkk.out) 6 (O Y sm); refine hK.out _ _ ?_; clear hK K; refine nm ?_; refine pq 8 ?_; refine pq 9 ?_; refine rg2 10 (fun K hK => ?_); refine skip_ (w1 := ?_) (by rfl) rfl ?_ ?_; rotate_left
    · go_simp; rfl
    refine hK.out _ _ ?_; clear hK K; refine dn ?_; have h := HR.out.setc (o := 6) hkk.out (O Y (crcOn sm (putS et))); rw [set_app (idx_set hk.out), List.set_set] at h; replace h : Has w0 (w6.setCell ⟨gr, 6, none⟩ (O Y (crcOn sm (putS et)))) (L.set k (boxA gr 70 ({ r with ev := r.ev + 1, sm := crcOn sm (putS et) } : RP).cs) ++ [boxA gx 64 #[O Y ek, O Y et, O Y ea, O Y eb]]) := h; replace h := ZZ h; clear c6' f6 hHeld; go_wp2_with fail; go_roundw; case rel => exact ⟨.inr (.inr (.inl rfl)), crcOn sm (putS et), h.out⟩
    case measure => simp [intOf]
  · skip; have c6 : wr.drew.cell? ⟨gr, 6, none⟩ = some (O Y sm) := (blk_cell (hL.drewK.blk hkk.out) 6).trans rfl; have HR := ZZ hL.drewK; obtain ⟨hnv0, hnv1⟩ : -1000 ≤ ea ∧ ea ≤ 1000 := hsm.out.2.2.1; have hnv : -9223372036854775808 ≤ ea ∧ ea < 9223372036854775808 := by omega
    clear hL; go_wp2_with fail; refine st 11 (S := fun w' => w'.cell? ⟨gr, 6, none⟩ = some (O Y sm)) (ds := [7, 10]) c6 (fun hHeld => ?_); generalize wr.drew = wq at *; refine pq 0 ?_; refine pq 1 ?_; refine pq 2 ?_; refine pq 3 ?_; refine pq 5 ?_; refine tk 4 hHeld ?_; refine rg1 6 (fun K hK => ?_); refine goes_ Tryz.func54 (by kernel_rfl) rfl #[O Y ea] (by rfl) rfl rfl (by (try simp only [MA, List.map_cons, List.map_nil]); first | done | rfl) ?_; refine (put_any ea _ hnv).mono ?_; rintro e w5 ⟨rfl, hb5⟩; refine ⟨_, rfl, ?_⟩; replace HR := ZZ (HR.out.step hb5); refine hK.out _ _ (cell_keep hb5 (NR _) hHeld) (fun hHeld => ?_); clear hK K; refine nm ?_; clear hb5; refine rg2 7 (fun K hK => ?_); refine goes_ Tryz.func109 (by kernel_rfl) rfl #[O Y sm, .string (putS ea)] (by rfl) rfl rfl (by (try simp only [MA, List.map_cons, List.map_nil]); first | done | rfl) ?_; refine (on_walk sm (putS ea) _ (by have := putS_size ea hnv; omega)).mono ?_; rintro e w6 ⟨rfl, hb6⟩; refine ⟨_, rfl, ?_⟩; replace HR := ZZ (HR.out.step hb6); have f6 := blk_frozen (HR.out.blk hkk.out) 6; have c6' := bk (HR.out.blk hkk.out) 6 (O Y sm); refine hK.out _ _ ?_; clear hK K; refine nm ?_; refine pq 8 ?_; refine pq 9 ?_; refine rg2 10 (fun K hK => ?_); refine skip_ (w1 := ?_) (by rfl) rfl ?_ ?_; rotate_left
    · go_simp; rfl
    refine hK.out _ _ ?_; clear hK K; refine dn ?_; have h := HR.out.setc (o := 6) hkk.out (O Y (crcOn sm (putS ea))); rw [set_app (idx_set hk.out), List.set_set] at h; replace h : Has w0 (w6.setCell ⟨gr, 6, none⟩ (O Y (crcOn sm (putS ea)))) (L.set k (boxA gr 70 ({ r with ev := r.ev + 1, sm := crcOn sm (putS ea) } : RP).cs) ++ [boxA gx 64 #[O Y ek, O Y et, O Y ea, O Y eb]]) := h; replace h := ZZ h; clear c6' f6 hHeld; go_wp2_with fail; go_roundw; case rel => exact ⟨.inr (.inr (.inr (.inl rfl))), crcOn sm (putS ea), h.out⟩
    case measure => simp [intOf]
  · skip; have c6 : wr.drew.cell? ⟨gr, 6, none⟩ = some (O Y sm) := (blk_cell (hL.drewK.blk hkk.out) 6).trans rfl; have HR := ZZ hL.drewK; obtain ⟨hnv0, hnv1⟩ : -1000 ≤ eb ∧ eb ≤ 1000 := hsm.out.2.2.2; have hnv : -9223372036854775808 ≤ eb ∧ eb < 9223372036854775808 := by omega
    clear hL; go_wp2_with fail; refine st 11 (S := fun w' => w'.cell? ⟨gr, 6, none⟩ = some (O Y sm)) (ds := [7, 10]) c6 (fun hHeld => ?_); generalize wr.drew = wq at *; refine pq 0 ?_; refine pq 1 ?_; refine pq 2 ?_; refine pq 3 ?_; refine pq 5 ?_; refine tk 4 hHeld ?_; refine rg1 6 (fun K hK => ?_); refine goes_ Tryz.func54 (by kernel_rfl) rfl #[O Y eb] (by rfl) rfl rfl (by (try simp only [MA, List.map_cons, List.map_nil]); first | done | rfl) ?_; refine (put_any eb _ hnv).mono ?_; rintro e w5 ⟨rfl, hb5⟩; refine ⟨_, rfl, ?_⟩; replace HR := ZZ (HR.out.step hb5); refine hK.out _ _ (cell_keep hb5 (NR _) hHeld) (fun hHeld => ?_); clear hK K; refine nm ?_; clear hb5; refine rg2 7 (fun K hK => ?_); refine goes_ Tryz.func109 (by kernel_rfl) rfl #[O Y sm, .string (putS eb)] (by rfl) rfl rfl (by (try simp only [MA, List.map_cons, List.map_nil]); first | done | rfl) ?_; refine (on_walk sm (putS eb) _ (by have := putS_size eb hnv; omega)).mono ?_; rintro e w6 ⟨rfl, hb6⟩; refine ⟨_, rfl, ?_⟩; replace HR := ZZ (HR.out.step hb6); have f6 := blk_frozen (HR.out.blk hkk.out) 6; have c6' := bk (HR.out.blk hkk.out) 6 (O Y sm); refine hK.out _ _ ?_; clear hK K; refine nm ?_; refine pq 8 ?_; refine pq 9 ?_; refine rg2 10 (fun K hK => ?_); refine skip_ (w1 := ?_) (by rfl) rfl ?_ ?_; rotate_left
    · go_simp; rfl
    refine hK.out _ _ ?_; clear hK K; refine dn ?_; have h := HR.out.setc (o := 6) hkk.out (O Y (crcOn sm (putS eb))); rw [set_app (idx_set hk.out), List.set_set] at h; replace h : Has w0 (w6.setCell ⟨gr, 6, none⟩ (O Y (crcOn sm (putS eb)))) (L.set k (boxA gr 70 ({ r with ev := r.ev + 1, sm := crcOn sm (putS eb) } : RP).cs) ++ [boxA gx 64 #[O Y ek, O Y et, O Y ea, O Y eb]]) := h; replace h := ZZ h; clear c6' f6 hHeld; go_wp2_with fail; go_roundw; case rel => exact ⟨.inr (.inr (.inr (.inr rfl))), crcOn sm (putS eb), h.out⟩
    case measure => simp [intOf]
  · obtain ⟨_, hP, -⟩ := hL.get (a := boxA gx 64 #[O Y ek, O Y et, O Y ea, O Y eb]) (by simp); have x0 := bk hP.2 0 (O Y ek); by_cases he8 : ek = 8
    · subst he8; have c3 := bk (hL.blk hkk.out) 3 (O Y r.en); have f3 := blk_frozen (hL.blk hkk.out) 3; have hw3 : wrap64 (r.en + 1) = r.en + 1 := by have := hen.out; exact wrapIn (by omega)
      have h2 := hL.setc (o := 3) hkk.out (O Y (r.en + 1)); rw [set_app (idx_set hk.out), List.set_set] at h2; replace h2 : Has w0 (wr.setCell ⟨gr, 3, none⟩ (O Y (r.en + 1))) (L.set k (boxA gr 70 ({ r with ev := r.ev + 1, sm := sm, en := r.en + 1 } : RP).cs) ++ [boxA gx 64 #[O Y 8, O Y et, O Y ea, O Y eb]]) := h2; have c4 := bk (h2.drewK.blk (idx_app (idx_set hk.out))) 4 (O Y r.wo); have f4 := blk_frozen (h2.drewK.blk (idx_app (idx_set hk.out))) 4; obtain ⟨_, hP2, -⟩ := h2.drewK.get (a := boxA gx 64 #[O Y 8, O Y et, O Y ea, O Y eb]) (by simp); have x3 := bk hP2.2 3 (O Y eb); have h3 := h2.drewK.setc (o := 4) (idx_app (idx_set hk.out)) (O Y (max r.wo eb)); rw [set_app (idx_set hk.out), List.set_set] at h3; have h4 := h3.sub (List.sublist_append_left _ _); replace h4 := ZZ h4; clear h2 h3 hL hP hP2; go_wp2_with fail; refine st 11 (S := fun w' => w'.cell? ⟨gr, 4, none⟩ = some (O Y r.wo) ∧ w'.cell? ⟨gx, 3, none⟩ = some (O Y eb)) (ds := [10]) ⟨c4, x3⟩ (fun hHeld => ?_); refine pq 0 ?_; refine pq 1 ?_; refine pq 2 ?_; refine pq 3 ?_; refine pq 5 ?_; refine tk 4 hHeld ?_; refine tk 6 hHeld ?_; refine pq 7 ?_ (v := O Y (max r.wo eb)) (hy := by intro w'; go_simp; split <;> omega); refine pq 8 ?_; refine pq 9 ?_; refine rg2 10 (fun K hK => ?_); refine skip_ (w1 := ?_) (by rfl) rfl ?_ ?_; rotate_left
      · go_simp; rfl
      refine hK.out _ _ ?_; clear hK K; refine dn ?_; go_wp2_with fail; go_end0; exact ⟨rfl, sm, h4.out⟩
    · have he9 : (ek == 8) = false := beq_eq_false_iff_ne.mpr he8; have h4 := hL.sub (List.sublist_append_left _ _); replace h4 := ZZ h4; clear hL hP; go_wp2_with fail; go_end0; refine ⟨rfl, sm, ?_⟩; unfold cntR; dsimp only; rw [if_neg he8, if_neg he8]; exact h4.out
end Go.Proofs.YtoopeamoejmjeaaGreat.Tp
namespace Go.Proofs.YtoopeamoejmjeaaGreat.Tp
open RowKit YtoopeamoejmjeaaGreatW.PrintWords YtoopeamoejmjeaaGreatW.PrintLast YtoopeamoejmjeaaGreatW.PrintMore Tm
theorem mFaulted (p : Addr) (w : World) : (method 416 30 (.pointer (some p)) "Faulted").run Tryz.prog w = .ok (227, .pointer (some p)) w := by kernel_rfl
theorem mPorts (p : Addr) (w : World) : (method 416 30 (.pointer (some p)) "Ports").run Tryz.prog w = .ok (228, .pointer (some p)) w := by kernel_rfl
theorem mTick (p : Addr) (w : World) : (method 416 30 (.pointer (some p)) "Tick").run Tryz.prog w = .ok (18, .pointer (some p)) w := by kernel_rfl
section
theorem enters_at {f : FuncId} {fn : Func} (hf : Tryz.prog.funcs[f]? = some fn) (hname : (fn.name == "runtime.NumGoroutine") = false) (hb : fn.body.isSome = true) : ∀ args w, (callFunc f args).run Tryz.prog w = .ok (.enter f args) w := fun args w => enters_ hf hname hb args w
section
variable {w0 W : World} {F : KF} {V : KV} {P : KP} {M : List Asn}
theorem kdefer_any {L : List Asn} {k br bt : Nat} {r : RP} (H : Has w0 W (KL F V P ++ M)) (hF : KOk F w0) (hk : (KL F V P ++ M)[k]? = some (boxA br 70 r.cs)) (u : FrameMode) (c0 : W.drew.cell? ⟨bt, 0, none⟩ = some (.iface 30 (.pointer (some ⟨F.gp, 0, none⟩)))) : CallsD Tryz.prog 88 #[.pointer (some ⟨bt, 0, none⟩), .pointer (some ⟨br, 0, none⟩)] u W fun e u' w' => u' = u ∧ e = .returned (.tuple #[]) ∧ ∃ A c, Has w0 w' ((KL F V P ++ M).set k (boxA br 70 ((r.cs.setIfInBounds 7 (.bool false)).setIfInBounds 8 (.slice A 0 c)))) := by
 have HR := ZZ H.drewK; replace hF := ZZ hF; replace hk := ZZ hk; clear H; go_enter_d Tryz.func88, Tryz.ntmps88; go_wp2_with fail; refine st 8 (S := fun w' => w'.cell? ⟨bt, 0, none⟩ = some (.iface 30 (.pointer (some ⟨F.gp, 0, none⟩)))) (ds := [3, 5, 7]) c0 (fun hHeld => ?_); generalize W.drew = wq at *; refine tk 0 hHeld ?_; refine tk 2 hHeld ?_; refine rg1 1 (fun K hK => ?_); refine call_ 227 #[.pointer (some ⟨F.gp, 0, none⟩)] (by rfl) rfl (by have hm := mFaulted ⟨F.gp, 0, none⟩; have he := enters_at Tryz.func227 (by kernel_rfl) rfl; go_simp; first | done | rfl) ?_; refine (kfault_any HR.out hF.out.hm).mono ?_; rintro e w5 ⟨rfl, rfl⟩; refine ⟨_, rfl, ?_⟩; refine hK.out _ _ hHeld (fun hHeld => ?_); clear hK K; refine nm ?_; refine rg2 3 (fun K hK => ?_); refine call_ 228 #[.pointer (some ⟨F.gp, 0, none⟩)] (by rfl) rfl (by have hm := mPorts ⟨F.gp, 0, none⟩; have he := enters_at Tryz.func228 (by kernel_rfl) rfl; go_simp; first | done | rfl) ?_; refine (kports_any HR.out hF.out).mono ?_; rintro e w6 ⟨⟨Ap, cp, rfl⟩, hb6⟩; refine ⟨_, rfl, ?_⟩; have HR6 := HR.out.step hb6; have f7 := blk_frozen (HR6.blk hk.out) 7; have c7 := bk (HR6.blk hk.out) 7 (.bool false); have H7 := HR6.setc (o := 7) hk.out (.bool false); have f8 := blk_frozen (H7.blk (idx_set hk.out)) 8; have c8 := bk (H7.blk (idx_set hk.out)) 8 (.slice none 0 0); have H8 := H7.setc (o := 8) (idx_set hk.out) (.slice Ap 0 cp); refine hK.out _ _ ?_; clear hK K; refine nm ?_; refine pq 4 ?_; refine rg2 5 (fun K hK => ?_); refine skip_ (w1 := ?_) (by rfl) rfl ?_ ?_; rotate_left
 · go_simp; rfl
 refine hK.out _ _ ?_; clear hK K; refine pq 6 ?_; refine rg2 7 (fun K hK => ?_); refine skip_ (w1 := ?_) (by rfl) rfl ?_ ?_; rotate_left
 · go_simp; rfl
 refine hK.out _ _ ?_; clear hK K; refine dn ?_; go_end0; refine ⟨rfl, Ap, cp, ?_⟩; rw [List.set_set] at H8; exact H8
end
end
def P0k : KP := ⟨0, [], ⟨false, 0, 0⟩, ⟨false, 0, 0⟩, none, [], []⟩
def itK : Nat → KP
 | 0 => P0k
 | n + 1 => tickP (itK n)
def cntL (r : RP) (l : List EK) : RP := l.foldl (fun r x => cntR r x 0) r
def repK : Nat → RP
 | 0 => ⟨0, -1, 0, 0, 0, 0, 0⟩
 | n + 1 => cntL { repK n with sl := (repK n).sl + 1 } (itK (n + 1)).ev
def smE (x : EK) : Bool := decide (-1000 ≤ x.k) && decide (x.k ≤ 1000) && decide (-1000 ≤ x.t) && decide (x.t ≤ 1000) && decide (-1000 ≤ x.a) && decide (x.a ≤ 1000) && decide (-1000 ≤ x.b) && decide (x.b ≤ 1000)
theorem smE_spec {x : EK} (h : smE x = true) : SmE x := by
 simp only [smE, Bool.and_eq_true, decide_eq_true_eq] at h; obtain ⟨⟨⟨⟨⟨⟨⟨h1, h2⟩, h3⟩, h4⟩, h5⟩, h6⟩, h7⟩, h8⟩ := h; exact ⟨⟨h1, h2⟩, ⟨h3, h4⟩, ⟨h5, h6⟩, ⟨h7, h8⟩⟩
theorem okT_all : (List.range 30).all (fun n => okT (itK n)) = true := by kernel_rfl
theorem sm_all : (List.range 31).all (fun n => (itK n).ev.all smE && decide ((itK n).ev.length ≤ 1000)) = true := by kernel_rfl
theorem rep_all : (List.range 31).all (fun n => decide (0 ≤ (repK n).ev) && decide ((repK n).ev ≤ 1000) && decide (0 ≤ (repK n).en) && decide ((repK n).en ≤ 1000) && decide ((repK n).sl = n)) = true := by kernel_rfl
theorem rep_end : (repK 30).e = 0 ∧ (repK 30).sl = 30 ∧ (repK 30).en = 3 ∧ (repK 30).wo = 10 := by
 refine ⟨?_, ?_, ?_, ?_⟩ <;> kernel_rfl
section
theorem entU_at {us : List Value} {k : Nat} {u : Value} (h : us[k]? = some u) : (entU us)[k * 3]? = some (.slice none 0 0) ∧ (entU us)[k * 3 + 1]? = some u ∧ (entU us)[k * 3 + 2]? = some (O Y 0) := by
 induction us generalizing k with
 | nil => simp at h
 | cons x l ih =>
  rw [show entU (x :: l) = [.slice none 0 0, x, O Y 0] ++ entU l from rfl]; cases k with
  | zero =>
   simp only [List.getElem?_cons_zero, Option.some.injEq] at h; subst h; exact ⟨rfl, rfl, rfl⟩
  | succ k =>
   rw [List.getElem?_cons_succ] at h; obtain ⟨h0, h1, h2⟩ := ih h; refine ⟨?_, ?_, ?_⟩; all_goals rw [List.getElem?_append_right (by simp; omega)]
   · rwa [show (k + 1) * 3 - [Value.slice none 0 0, x, O Y 0].length = k * 3 by simp; omega]
   · rwa [show (k + 1) * 3 + 1 - [Value.slice none 0 0, x, O Y 0].length = k * 3 + 1 by simp; omega]
   · rwa [show (k + 1) * 3 + 2 - [Value.slice none 0 0, x, O Y 0].length = k * 3 + 2 by simp; omega]
theorem ekU_at {l : List EK} {k : Nat} {x : EK} (h : l[k]? = some x) : (l.flatMap EK.enc)[k * 4]? = some (O Y x.k) ∧ (l.flatMap EK.enc)[k * 4 + 1]? = some (O Y x.t) ∧ (l.flatMap EK.enc)[k * 4 + 2]? = some (O Y x.a) ∧ (l.flatMap EK.enc)[k * 4 + 3]? = some (O Y x.b) := by
 induction l generalizing k with
 | nil => simp at h
 | cons y l ih =>
  rw [List.flatMap_cons]; cases k with
  | zero =>
   simp only [List.getElem?_cons_zero, Option.some.injEq] at h; subst h; exact ⟨rfl, rfl, rfl, rfl⟩
  | succ k =>
   rw [List.getElem?_cons_succ] at h; obtain ⟨h0, h1, h2, h3⟩ := ih h; have e : y.enc.length = 4 := rfl; refine ⟨?_, ?_, ?_, ?_⟩; all_goals rw [List.getElem?_append_right (by omega), e]
   · rwa [show (k + 1) * 4 - 4 = k * 4 by omega]
   · rwa [show (k + 1) * 4 + 1 - 4 = k * 4 + 1 by omega]
   · rwa [show (k + 1) * 4 + 2 - 4 = k * 4 + 2 by omega]
   · rwa [show (k + 1) * 4 + 3 - 4 = k * 4 + 3 by omega]
theorem rep_at {k : Nat} (h : k < 31) : (0 ≤ (repK k).ev ∧ (repK k).ev ≤ 1000) ∧ (0 ≤ (repK k).en ∧ (repK k).en ≤ 1000) ∧ True ∧ True ∧ (repK k).sl = k := by
 have := List.all_eq_true.1 rep_all k (List.mem_range.2 h); simp only [Bool.and_eq_true, decide_eq_true_eq] at this; exact ⟨⟨this.1.1.1.1, this.1.1.1.2⟩, ⟨this.1.1.2, this.1.2⟩, trivial, trivial, this.2⟩
theorem ev_at {k : Nat} (h : k < 31) : (∀ x ∈ (itK k).ev, SmE x) ∧ (itK k).ev.length ≤ 1000 := by
 have := List.all_eq_true.1 sm_all k (List.mem_range.2 h); simp only [Bool.and_eq_true, decide_eq_true_eq] at this; exact ⟨fun x hx => smE_spec (List.all_eq_true.1 this.1 x hx), this.2⟩
theorem cntL_bound (l : List EK) : ∀ r : RP, (cntL r l).ev = r.ev + l.length ∧ r.en ≤ (cntL r l).en ∧ (cntL r l).en ≤ r.en + l.length := by
 induction l with
 | nil => intro r; exact ⟨by simp [cntL], Int.le_refl _, by simp [cntL]⟩
 | cons x l ih =>
  intro r; obtain ⟨h1, h2, h3⟩ := ih (cntR r x 0); have e1 : cntL r (x :: l) = cntL (cntR r x 0) l := rfl; have e2 : (cntR r x 0).ev = r.ev + 1 := rfl; have e3 : (cntR r x 0).en = if x.k = 8 then r.en + 1 else r.en := rfl
  rw [e1]; refine ⟨by rw [h1, e2, List.length_cons]; omega, ?_, ?_⟩
  · rw [e3] at h2; split at h2 <;> omega
  · rw [e3] at h3; rw [List.length_cons]; split at h3 <;> omega
theorem kbox {F : KF} {M : List Asn} (V : KV) (P : KP) (a b : Asn) : (KL F V P ++ (M ++ [a, b]))[14 + (M.length + 1)]? = some b := by
 rw [List.getElem?_append_right (by show 14 ≤ 14 + (M.length + 1); omega), show 14 + (M.length + 1) - (KL F V P).length = M.length + 1 from Nat.add_sub_cancel_left 14 _, List.getElem?_append_right (by omega)]; simp
theorem kbox_set {F : KF} {M : List Asn} {V : KV} {P : KP} {a b c : Asn} : (KL F V P ++ (M ++ [a, b])).set (14 + (M.length + 1)) c = KL F V P ++ (M ++ [a, c]) := by
 rw [List.set_append_right _ _ (by show 14 ≤ 14 + (M.length + 1); omega), show 14 + (M.length + 1) - (KL F V P).length = M.length + 1 from Nat.add_sub_cancel_left 14 _, List.set_append_right _ _ (by omega)]; simp
section
variable {w0 W : World} {F : KF} {V : KV} {M : List Asn}
theorem kplay_any {v : Value} {us : List Value} (H : Has w0 W (KL F V P0k ++ M)) (hF : KOk F w0) (hE : LRow w0 0 62 3 v 30 (entU us)) (hul : us.length = 30) (hus : Nils us) : Calls Tryz.prog 52 #[.iface 30 (.pointer (some ⟨F.gp, 0, none⟩)), v] W fun e w' => ∃ sm A c, e = .returned (.agg #[O Y 0, O Y (-1), O Y 30, O Y 3, O Y 10, O Y (repK 30).ev, O Y sm, .bool false, .slice A 0 c]) ∧ Below w0.heap.size w0 w' := by
 have hmf : ∀ (fn : Fn) (first cap : Array Value) (w : World), (Instr.makeFunc fn first cap).run Tryz.prog w = .ok (.func fn first cap) w := fun _ _ _ _ => rfl; obtain ⟨Av, cv, rfl, -⟩ := LRow.slice hE; have H0 := (H.boxed 199 #[.iface 30 (.pointer (some ⟨F.gp, 0, none⟩))]).boxed 70 (repK 0).cs; rw [World.size_alloc, List.append_assoc, List.append_assoc] at H0; obtain ⟨g, hg⟩ : ∃ g, W.heap.size = g := ⟨_, rfl⟩
 obtain ⟨W0, e0⟩ : ∃ W0, (W.alloc (.cells #[.iface 30 (.pointer (some ⟨F.gp, 0, none⟩))] 199)).alloc (.cells (repK 0).cs 70) = W0 := ⟨_, rfl⟩
 rw [e0, hg] at H0; replace e0 : (W.alloc (.cells #[.iface 30 (.pointer (some ⟨F.gp, 0, none⟩))] 199)).alloc (.cells #[O Y 0, O Y (-1), O Y 0, O Y 0, O Y 0, O Y 0, O Y 0, .bool false, .slice none 0 0] 70) = W0 := e0; obtain ⟨_, hPa, -⟩ := H0.get (a := boxA g 199 #[.iface 30 (.pointer (some ⟨F.gp, 0, none⟩))]) (by simp); have c0 := bk hPa.2 0 (.iface 30 (.pointer (some ⟨F.gp, 0, none⟩))); replace H0 := ZZ H0; replace hE := ZZ hE; clear H; replace hF := ZZ hF; go_enter_defers Tryz.func52, Tryz.ntmps52; go_wp2_with fail; replace e0 := ZZ e0; replace hg := ZZ hg; go_loopw [19] (fun vi wr => ∃ (n sm : Int) (k : Nat) (V : KV), k ≤ 30 ∧ vi = O Y k ∧ Has w0 wr (KL F V (itK k) ++ (M ++ [boxA g 199 #[.iface 30 (.pointer (some ⟨F.gp, 0, none⟩))], boxA (g + 1) 70 ({ repK k with sm := sm } : RP).cs]))) (fun vi _ => 30 - (intOf vi).toNat); case atStart => exact ⟨0, 0, 0, V, by omega, rfl, H0.out⟩
 case round =>
  obtain ⟨-, sm, k, V1, hk, rfl, HL⟩ := hrel; clear H0 hPa c0; by_cases hlt : k < 30
  · obtain ⟨u, hu⟩ : ∃ u, us[k]? = some u := ⟨_, GE (by omega)⟩
    obtain ⟨Aj, cj, rfl⟩ := hus u (LM hu); obtain ⟨t0, t1, t2⟩ := entU_at hu; have hrow := LRow.step hE.out HL.below; obtain ⟨gv, rfl⟩ : ∃ gv, Av = some ⟨gv, 0, none⟩ := by
     rcases hrow.2 with ⟨_, h⟩ | ⟨gv, cap, cur, h, _⟩
     · cases h
     · injection h with h; exact ⟨gv, h⟩
    have x0 := LRow.cell hrow _ _ t0; have x1 := LRow.cell hrow _ _ t1; have x2 := LRow.cell hrow _ _ t2; rw [add_plain] at x0 x1 x2; have H2 := HL.new 62 #[.slice none 0 0, .slice Aj 0 cj, O Y 0]; obtain ⟨_, hPa, -⟩ := H2.get (a := boxA g 199 #[.iface 30 (.pointer (some ⟨F.gp, 0, none⟩))]) (by simp); have c0 := bk hPa.2 0 (.iface 30 (.pointer (some ⟨F.gp, 0, none⟩))); have hmF := mFaulted ⟨F.gp, 0, none⟩; have hFa := ZZ (kfault_any H2 hF.out.hm); have hokk : okT (itK k) = true := by have := List.all_eq_true.1 okT_all k (List.mem_range.2 hlt); exact this
    have hTk := ZZ (ktick_any (A := Aj) (c := cj) H2 hF.out hokk); replace H2 := ZZ H2; clear HL hrow t0 t1 t2 hPa hu; go_wp2_with fail; refine hFa.out.mono ?_; rintro e V2 ⟨rfl, rfl⟩; have hmT := mTick ⟨F.gp, 0, none⟩; clear hmF hFa x0 x1 x2; go_wp2_with fail; refine hTk.out.mono ?_; rintro e w3 ⟨V3, rfl, H3⟩; replace H3 : Has w0 w3 (KL F V3 (itK (k + 1)) ++ (M ++ [boxA g 199 #[.iface 30 (.pointer (some ⟨F.gp, 0, none⟩))], boxA (g + 1) 70 ({ repK k with sm := sm } : RP).cs])) := H3; obtain ⟨rp, hrp⟩ : ∃ rp : RP, rp = { repK k with sm := sm } := ⟨_, rfl⟩
    rw [← hrp] at H3; have hkb := fun (a : Asn) V P => kbox (F := F) (M := M) V P (boxA g 199 #[.iface 30 (.pointer (some ⟨F.gp, 0, none⟩))]) a; have s2 := bk (H3.blk (hkb _ _ _)) 2 (O Y rp.sl); have f2 := blk_frozen (H3.blk (hkb _ _ _)) 2; have H4 := H3.setc (o := 2) (hkb _ _ _) (O Y (rp.sl + 1)); rw [kbox_set] at H4; replace H4 : Has w0 _ (KL F V3 (itK (k + 1)) ++ (M ++ [boxA g 199 #[.iface 30 (.pointer (some ⟨F.gp, 0, none⟩))], boxA (g + 1) 70 ({ rp with sl := rp.sl + 1 } : RP).cs])) := H4; obtain ⟨Ae, ce, hve, -⟩ := LRow.slice (H4.rowK (k := 12) rfl); replace H4 := ZZ H4; clear hTk H2 H3; rw [hve]; obtain ⟨hr0, hr1, hr2, hr3, hr4⟩ := rep_at (k := k) (by omega)
    have hsl : rp.sl = k := by rw [hrp]; exact hr4
    have hw2 : wrap64 (rp.sl + 1) = rp.sl + 1 := wrapIn (by omega); replace hsl := ZZ hsl; have hev := ev_at (k := k + 1) (by omega)
    have hrq : ({ rp with sl := rp.sl + 1 } : RP) = { cntL { repK k with sl := (repK k).sl + 1 } ((itK (k + 1)).ev.take 0) with sm := sm } := by rw [hrp]; rfl
    rw [hrq] at H4; obtain ⟨ne, hne⟩ : ∃ ne, (itK (k + 1)).ev.length = ne := ⟨_, rfl⟩
    rw [hne] at hve; rw [hne]; replace H4 := ZZ H4; replace hev := ZZ hev; replace hrp := ZZ hrp; replace hrq := ZZ hrq; go_wp2_with fail; clear s2 f2 hw2; go_loopw [43] (fun vi wr => ∃ (i : Nat) (sm : Int), i ≤ ne ∧ vi = O Y i ∧ Has w0 wr (KL F V3 (itK (k + 1)) ++ (M ++ [boxA g 199 #[.iface 30 (.pointer (some ⟨F.gp, 0, none⟩))], boxA (g + 1) 70 ({ cntL { repK k with sl := (repK k).sl + 1 } ((itK (k + 1)).ev.take i) with sm := sm } : RP).cs]))) (fun vi _ => ne - (intOf vi).toNat); case atStart => exact ⟨0, sm, by omega, rfl, H4.out⟩
    case round =>
     obtain ⟨i, smi, hi, rfl, HI⟩ := hrel; clear H4; by_cases hil : i < ne
     · obtain ⟨x, hx⟩ : ∃ x, (itK (k + 1)).ev[i]? = some x := ⟨_, GE (by omega)⟩
       have hrowe := HI.rowK (k := 12) rfl; rw [hve, hne] at hrowe; obtain ⟨ge, rfl⟩ : ∃ ge, Ae = some ⟨ge, 0, none⟩ := by
        rcases hrowe.2 with ⟨_, h⟩ | ⟨gv, cap, cur, h, _⟩
        · omega
        · injection h with h; exact ⟨gv, h⟩
       obtain ⟨t0, t1, t2, t3⟩ := ekU_at hx; have x0 := LRow.cell hrowe _ _ t0; have x1 := LRow.cell hrowe _ _ t1; have x2 := LRow.cell hrowe _ _ t2; have x3 := LRow.cell hrowe _ _ t3; rw [add_plain] at x0 x1 x2 x3; have b1 : (i : Int) < (ne : Int) := by omega
       have hi5 : i < 10000 := by have := hev.out.2; omega
       have hbd := cntL_bound ((itK (k + 1)).ev.take i) { repK k with sl := (repK k).sl + 1 }; have hlen : ((itK (k + 1)).ev.take i).length ≤ 1000 := by rw [List.length_take]; have := hev.out.2; omega
       have hC := ZZ (rcount_any (HI.new 64 #[O Y x.k, O Y x.t, O Y x.a, O Y x.b]) (kbox _ _ _ _) (hev.out.1 x (LM hx)) (by have := hbd.1; dsimp only at this ⊢; omega) (by have := hbd.2; dsimp only at this ⊢; omega)); replace hx := ZZ hx; clear hrowe t0 t1 t2 t3 HI hbd hlen; go_wp2_with fail; refine hC.out.mono ?_; rintro e w5 ⟨rfl, sm5, H5⟩; rw [kbox_set] at H5; replace H5 := ZZ H5; clear hC x0 x1 x2 x3; go_wp2_with fail; go_roundw; case rel => exact ⟨i + 1, sm5, by omega, by go_num, by rw [take_next _ i x hx.out]; unfold cntL; rw [List.foldl_append]; exact H5.out⟩
       case measure => simp [intOf]; omega
     · obtain rfl : i = ne := by omega
       have HE : Has w0 wr (KL F V3 (itK (k + 1)) ++ (M ++ [boxA g 199 #[.iface 30 (.pointer (some ⟨F.gp, 0, none⟩))], boxA (g + 1) 70 ({ repK (k + 1) with sm := smi } : RP).cs])) := by
        rw [List.take_of_length_le (by omega)] at HI; exact HI
       replace HE := ZZ HE; have hk5 : k < 10000 := by omega
       clear HI; go_wp2_with fail; go_roundw; case rel => exact ⟨0, smi, k + 1, V3, by omega, by go_num, HE.out⟩
       case measure => simp [intOf]; omega
  · obtain rfl : k = 30 := by omega
    obtain ⟨rq, hrq⟩ : ∃ rq : RP, rq = { repK 30 with sm := sm } := ⟨_, rfl⟩
    rw [← hrq] at HL; have hB := HL.blk (kbox V1 (itK 30) _ _); have y0 := bk hB 0 (O Y rq.e); have y1 := bk hB 1 (O Y rq.at_); have y2 := bk hB 2 (O Y rq.sl); have y3 := bk hB 3 (O Y rq.en); have y4 := bk hB 4 (O Y rq.wo); have y5 := bk hB 5 (O Y rq.ev); have y6 := bk hB 6 (O Y rq.sm); have y7 := bk hB 7 (.bool false); have y8 := bk hB 8 (.slice none 0 0); have hs70 : (Tryz.prog.info? 70).map (·.size) = some 9 := by kernel_rfl
    have hself := setRow_self _ _ _ 70 (0, 0) hB; replace HL := ZZ HL; replace hB := ZZ hB; replace hrq := ZZ hrq; replace hself := ZZ hself; go_wp2_with (first | (refine wpList_store_row rfl 70 (.tmp 4) (.tmp 51) rfl (g + 1) rq.cs rfl rfl 70 _ hB.out hs70 rfl (by simp [RP.cs, Value.oneCell']) ?_; rw [hself.out]) | fail)
    obtain ⟨_, hPa, -⟩ := HL.out.drewK.get (a := boxA g 199 #[.iface 30 (.pointer (some ⟨F.gp, 0, none⟩))]) (by simp); refine leaves_cons (f := 88) (args := #[.pointer (some ⟨g, 0, none⟩), .pointer (some ⟨g + 1, 0, none⟩)]) (by simp) (by simp [go_sem]) ?_; refine (kdefer_any (L := []) (bt := g) HL.out hF.out (kbox V1 (itK 30) _ _) .returning ((blk_cell hPa.2 0).trans rfl)).mono ?_; rintro e u' w9 ⟨rfl, rfl, Ap, cp, H9⟩; rw [kbox_set] at H9; have hB9 := H9.blk (kbox V1 (itK 30) _ _); obtain ⟨r0, r1, r2, r3⟩ := rep_end; refine ⟨_, results_cell_row rfl _ _ (g + 1) 70 _ (0, 0) _ rfl hB9 Tryz.underlying70 rfl hs70, ⟨sm, Ap, cp, ?_⟩, H9.below⟩; rw [hrq.out, show (O Y 30) = O Y (repK 30).sl by rw [r1], show (O Y 3) = O Y (repK 30).en by rw [r2], show (O Y 10) = O Y (repK 30).wo by rw [r3]]; have r4 : (repK 30).at_ = -1 := by kernel_rfl
    rw [r0, r4]; generalize (repK 30).sl = a1, (repK 30).en = a2, (repK 30).wo = a3, (repK 30).ev = a4; rfl
end
end
def sEND : ByteArray := ⟨#[69, 78, 68]⟩
def sENDl : ByteArray := ⟨#[69, 78, 68, 10]⟩
theorem kind_end : kindOf 25 = ⟨sEND, 0, 0, 0⟩ := by kernel_rfl
theorem field252n (n : ByteArray) (a l h : Int) (w : World) : (Instr.field 252 (.agg #[.string n, O Y a, O Y l, O Y h]) 0).run Tryz.prog w = .ok (.string n) w := by
 obtain ⟨i0, hi, hz⟩ := Option.map_eq_some_iff.1 (show (Tryz.prog.info? 9).map (·.size) = some 1 by kernel_rfl); simp [Instr.field, run_underlying Tryz.underlying252, asAgg, part, sizeOf, typeInfo, hi, hz, isAgg, run_underlying Tryz.underlying9]
theorem name_end (w : World) : Calls Tryz.prog 92 #[O Y 25] w fun e w' => e = .returned (.string sEND) ∧ Below w.heap.size w w' := by
 have hc := ZZ (of_lit 25 w kind_end); go_enter Tryz.func92, Tryz.ntmps92; go_wp2_with fail; refine hc.out.mono ?_; rintro e w1 ⟨rfl, hb⟩; replace hb := ZZ hb; have hf := field252n sEND 0 0 0 w1; go_wp2_with fail; go_ret; exact ⟨rfl, hb.out⟩
theorem line_end (w : World) : Calls Tryz.prog 55 #[.agg #[O Y 25, O Y 0, O Y 0]] w fun e w' => e = .returned (.string sENDl) ∧ Below w.heap.size w w' := by
 have hr := fun w => ZZ (right_any 25 0 0 w); rw [show rightI 25 0 0 = true by kernel_rfl] at hr; have ha := fun w => ZZ (args_any 25 w); rw [kind_end] at ha; replace hr := ZZ hr; replace ha := ZZ ha; go_enter Tryz.func55, Tryz.ntmps55; go_wp2_with fail; refine (hr.out _).out.mono ?_; rintro e w1 ⟨rfl, hb0⟩; have x0 : w1.cell? ⟨w.heap.size, 0, none⟩ = some (O Y 25) := cell_keep hb0 (NR _) ((blk_cell (heap_alloc_last w (.cells #[O Y 25, O Y 0, O Y 0] 127)) 0).trans rfl); have x1 : w1.cell? ⟨w.heap.size, 1, none⟩ = some (O Y 0) := cell_keep hb0 (NR _) ((blk_cell (heap_alloc_last w (.cells #[O Y 25, O Y 0, O Y 0] 127)) 1).trans rfl); have x2 : w1.cell? ⟨w.heap.size, 2, none⟩ = some (O Y 0) := cell_keep hb0 (NR _) ((blk_cell (heap_alloc_last w (.cells #[O Y 25, O Y 0, O Y 0] 127)) 2).trans rfl); have hb1 := ZZ (((BR w.heap.size w).alloc (NR _) (.cells #[O Y 25, O Y 0, O Y 0] 127)).trans (hb0.mono (by simp))); clear hb0 hr; go_wp2_with fail; refine (name_end _).mono ?_; rintro e w2 ⟨rfl, hb2⟩; replace x0 := cell_keep hb2 (NR _) x0; replace x1 := cell_keep hb2 (NR _) x1; replace x2 := cell_keep hb2 (NR _) x2; have hb3 := ZZ (hb1.out.trans (hb2.mono hb1.out.size)); clear hb2 hb1; go_wp2_with fail; go_loopw [3, 4, 5, 17] (fun vs _ _ vk wr => ∃ k : Nat, k ≤ 2 ∧ vk = O Y k ∧ vs = .string sEND ∧ Below w.heap.size w wr ∧ wr.cell? ⟨w.heap.size, 0, none⟩ = some (O Y 25)) (fun _ _ _ vk _ => 2 - (intOf vk).toNat); case atStart => exact ⟨0, by omega, rfl, rfl, hb3.out, x0⟩
 case round =>
  obtain ⟨k, hk, rfl, rfl, hb4, x0⟩ := hrel; replace hb4 := ZZ hb4; clear x1 x2 hb3; by_cases hlt : k < 2
  · have hix := idx2 0 0 k wr hlt; rw [ite_self] at hix; have d1 : decide ((k : Int) < 0) = false := decide_eq_false (by omega); have d2 : (k : Int) < 2 := by omega
    go_wp2_with fail; refine (ha.out _).out.mono ?_; rintro e w5 ⟨rfl, hb5⟩; have x5 := cell_keep hb5 (NR _) x0; have hb6 := ZZ (hb4.out.trans (hb5.mono hb4.out.size)); clear hb5 x0 hb4 hix; go_wp2_with fail; go_roundw; case rel => exact ⟨k + 1, by omega, by go_num, rfl, hb6.out, x5⟩
    case measure => simp [intOf]; omega
  · obtain rfl : k = 2 := by omega
    have hcv := ZZ (conv_str (own_one (W := wr) (Nat.zero_le _) 10)); go_wp2_with fail; rw [hcv.out]; have e10 : strOfNums [10] = ⟨#[10]⟩ := by kernel_rfl
    rw [e10]; go_wp2_with fail; go_ret; exact ⟨rfl, hb4.out.alloc hb4.out.size _⟩
theorem show_end {v : Value} {W : World} (h : CodeAt W v [⟨25, 0, 0⟩]) : Calls Tryz.prog 23 #[v] W fun e w' => e = .returned (.string sENDl) ∧ Below W.heap.size W w' := by
 have H0 := ZZ h; obtain ⟨A, c, rfl, hc, hn63, _⟩ := id h; clear h; go_enter Tryz.func23, Tryz.ntmps23; go_wp2_with fail; go_loopw [3, 12] (fun vs vi wr => ∃ k : Nat, k ≤ 1 ∧ vi = O Y k ∧ vs = .string (if k = 0 then BE else sENDl) ∧ Below W.heap.size W wr) (fun _ vi _ => 1 - (intOf vi).toNat); case atStart => exact ⟨0, by omega, rfl, rfl, BR _ _⟩
 case round =>
  obtain ⟨k, hk, rfl, rfl, hb1⟩ := hrel; by_cases hlt : k < 1
  · obtain ⟨ad, rfl, y0, y1, y2⟩ := CodeAt.at (H0.out.step hb1) k ⟨25, 0, 0⟩ (by obtain rfl : k = 0 := by omega
                                                                                 rfl)
    have d2 : (k : Int) < 1 := by omega
    have tk : decide (1 ≤ k) = false := decide_eq_false (by omega); have hk5 : k < 200 := by omega
    rw [if_pos (by omega)]; replace hlt := ZZ hlt; replace hb1 := ZZ hb1; have hl := fun w => ZZ (line_end w); replace hl := ZZ hl; have h1 : sENDl.toList.isEmpty = false := by kernel_rfl
    have h2 : ¬ 9223372036854775807 < sENDl.size := by decide
    clear hk; go_wp2_with fail; refine (hl.out _).out.mono ?_; rintro e w2 ⟨rfl, hb2⟩; have hb3 := ZZ ((hb1.out.alloc hb1.out.size (.cells #[O Y 25, O Y 0, O Y 0] 127)).trans (hb2.mono (by have := hb1.out.size; simp; omega))); clear hb2 hb1 y0 y1 y2; go_wp2_with fail; exact ⟨⟨k + 1, by have := hlt.out; omega, by go_num, by rw [if_neg (by omega)], hb3.out⟩, by have := hlt.out; simp [intOf]; omega⟩
  · rw [if_neg (by omega)]; replace hb1 := ZZ hb1; obtain rfl : k = 1 := by omega
    go_wp2_with fail; go_ret; exact ⟨rfl, hb1.out⟩
def SimpleAt (W : World) (gt gc : Nat) : Prop := W.heap[gt]? = some (.cells #[O Y 1, O Y 50, O Y 50, O Y 0, .slice none 0 0, .slice none 0 0, .slice (some ⟨gc, 0, none⟩) 1 1, O Y 2, O Y 20, O Y 20, O Y 0, .slice none 0 0, .slice none 0 0, .slice (some ⟨gc, 0, none⟩) 1 1] 45 (0, 0)) ∧ W.heap[gc]? = some (.cells #[O Y 25, O Y 0, O Y 0] 127 (0, 0))
def simpleV (gt : Nat) : Value := .agg #[O Y 1, O Y 1, O Y 1, O Y 0, .slice none 0 0, .slice none 0 0, .slice (some ⟨gt, 0, none⟩) 2 2]
theorem ints_nil (W : World) : IntsAt W (.slice none 0 0) [] := ⟨none, 0, rfl, NR _, by simp, fun j u hj => by simp at hj⟩
theorem SimpleAt.code {W : World} {gt gc : Nat} (h : SimpleAt W gt gc) : CodeAt W (.slice (some ⟨gc, 0, none⟩) 1 1) [⟨25, 0, 0⟩] := by
 refine ⟨_, 1, rfl, NR _, by simp, fun j u hj => ⟨_, rfl, ?_⟩⟩; rw [add_plain]; refine (blk_cell h.2 j).trans ?_; rw [← hj]; simp [I3.enc]
theorem SimpleAt.image {W : World} {gt gc : Nat} (h : SimpleAt W gt gc) : ImageAt W (simpleV gt) im0 := by
 have c := fun j => blk_cell h.1 j; refine ⟨_, _, _, rfl, ints_nil W, ⟨none, 0, rfl, NR _, fun j l hj => by simp [im0] at hj⟩, some ⟨gt, 0, none⟩, 2, rfl, NR _, fun j t hj => ⟨_, rfl, ?_⟩⟩; rw [add_plain]; match j, hj with
 | 0, hj =>
  injection hj with hj
  subst hj; exact ⟨_, _, _, (c 0).trans rfl, (c 1).trans rfl, (c 2).trans rfl, (c 3).trans rfl, (c 4).trans rfl, (c 5).trans rfl, (c 6).trans rfl, ints_nil W, ints_nil W, h.code⟩
 | 1, hj =>
  injection hj with hj
  subst hj; exact ⟨_, _, _, (c 7).trans rfl, (c 8).trans rfl, (c 9).trans rfl, (c 10).trans rfl, (c 11).trans rfl, (c 12).trans rfl, (c 13).trans rfl, ints_nil W, ints_nil W, h.code⟩
theorem simple_any (w : World) : Calls Tryz.prog 21 #[] w fun e w' => ∃ gt gc, e = .returned (simpleV gt) ∧ SimpleAt w' gt gc ∧ Below w.heap.size w w' := by
 have hs26 : (Tryz.prog.info? 26).map (·.size) = some 7 := by kernel_rfl
 replace hs26 := ZZ hs26; go_enter Tryz.func21, Tryz.ntmps21; go_wp2_with fail; have hb1 := (BR w.heap.size w).alloc (NR _) (.cells #[O Y 1, O Y 1, O Y 1, O Y 0, .slice none 0 0, .slice none 0 0, .slice (some ⟨w.heap.size + 1 + 1, 0, none⟩) 2 2] 26); have n1 := heap_alloc_new w (.cells #[O Y 1, O Y 1, O Y 1, O Y 0, .slice none 0 0, .slice none 0 0, .slice (some ⟨w.heap.size + 1 + 1, 0, none⟩) 2 2] 26); have z1 := World.size_alloc w (.cells #[O Y 1, O Y 1, O Y 1, O Y 0, .slice none 0 0, .slice none 0 0, .slice (some ⟨w.heap.size + 1 + 1, 0, none⟩) 2 2] 26); generalize w.alloc (.cells #[O Y 1, O Y 1, O Y 1, O Y 0, .slice none 0 0, .slice none 0 0, .slice (some ⟨w.heap.size + 1 + 1, 0, none⟩) 2 2] 26) = w1 at *; have hb2 := (BR w1.heap.size w1).alloc (NR _) (.cells #[O Y 25, O Y 0, O Y 0] 127); have n2 := heap_alloc_new w1 (.cells #[O Y 25, O Y 0, O Y 0] 127); have z2 := World.size_alloc w1 (.cells #[O Y 25, O Y 0, O Y 0] 127); generalize w1.alloc (.cells #[O Y 25, O Y 0, O Y 0] 127) = w2 at *; generalize hX : Obj.cells #[O Y 1, O Y 50, O Y 50, O Y 0, .slice none 0 0, .slice none 0 0, .slice (some ⟨w.heap.size + 1, 0, none⟩) 1 1, O Y 2, O Y 20, O Y 20, O Y 0, .slice none 0 0, .slice none 0 0, .slice (some ⟨w.heap.size + 1, 0, none⟩) 1 1] 45 = X at *; have hb3 := (BR w2.heap.size w2).alloc (NR _) X; have n3 := heap_alloc_new w2 X; generalize w2.alloc X = w3 at *; have m1 := (hb3.block w.heap.size (by omega)).trans ((hb2.block w.heap.size (by omega)).trans n1); have m2 := (hb3.block w1.heap.size (by omega)).trans n2; rw [z1] at m2; rw [z2, z1, ← hX] at n3; refine bodyPost_ret (results_cell_row rfl _ _ w.heap.size 26 _ (0, 0) _ rfl m1 Tryz.underlying26 rfl hs26.out) rfl ⟨w.heap.size + 1 + 1, w.heap.size + 1, rfl, ⟨n3, m2⟩, ?_⟩; exact (hb1.trans (hb2.mono (by omega))).trans (hb3.mono (by omega))
theorem im0_ok : im0.ok = true := by kernel_rfl
theorem im0_jud : judE im0 = 0 := by kernel_rfl
theorem im0_small : im0.small := by
 intro t ht x hx; simp only [im0, List.mem_cons, List.not_mem_nil, or_false] at ht; rcases ht with rfl | rfl <;> (simp only [List.mem_cons, List.not_mem_nil, or_false] at hx; subst hx; exact ⟨⟨by decide, by decide⟩, ⟨by decide, by decide⟩⟩)
theorem im0_imok : ImOk im0 := imOk_of im0_ok im0_small (fun n hn => by cases hn) (fun l hl => by cases hl)
theorem im0_size : (imgS im0).size ≤ 500000000 := imgS_size im0_imok
theorem mac_known {w w' : World} {p : Value} (h : MacAt w w' im0 p) : ∃ (w0 : World) (F : KF) (V : KV), p = .pointer (some ⟨F.gp, 0, none⟩) ∧ Below w.heap.size w w0 ∧ KOk F w0 ∧ Has w0 w' (KL F V P0k ++ []) := by
 obtain ⟨w0, gs, gp, gt, pb, pc, vs, vb, vt, vc, vo, vm, vp, mem, us, rfl, hb, hI, hO, hml, hul, hone, H⟩ := h; have hul2 : us.length = 2 := hul; match us, hul2, hone, H with
 | [⟨g0, c0, m0⟩, ⟨g1, c1, m1⟩], _, hone, H =>
  have H1 := H.sub (M := [setA gs [], rowA 3 1 0 vo [], boxA gp 89 (PQ.mk 1 1 1 0 vs vb vt vc (fun _ => O Y 0) vo mem vm (.pointer (some ⟨gt, 0, none⟩)) (.pointer (some ⟨gs, 0, none⟩)) (.slice none 0 0) (.slice none 0 0) false (.slice none 0 0)).cs, rowA 90 1 2 vm [.pointer (some ⟨g0, 0, none⟩), .pointer (some ⟨g1, 0, none⟩)], boxA g0 146 (machC c0 m0 false 0 0), rowA 127 3 1 c0 [O Y 25, O Y 0, O Y 0], boxA g1 146 (machC c1 m1 false 0 0), rowA 127 3 1 c1 [O Y 25, O Y 0, O Y 0], timA gt (.slice (some ⟨pb, 0, none⟩) 2 pc) 0 [], intA (.slice (some ⟨pb, 0, none⟩) 2 pc) [50, 20]]) (.cons_cons _ (.cons_cons _ (.cons_cons _ (.cons_cons _ (.cons _ (.refl _)))))); have H2 := ((((H1.pushNil 184 23).pushNil 182 22).pushNil 64 4).push (a := nilA) (BR _ _) [] (by simp) (rfl : ([] : List Nat) = []))
  refine ⟨w0, ⟨gs, gp, g0, g1, gt, pb, pc, vo, vm, vs, vb, vt, vc, c0, m0, c1, m1, mem⟩, ⟨.slice none 0 0, .slice none 0 0, .slice none 0 0, 0⟩, rfl, hb, ⟨hml, ?_, hI, hone (g0, c0, m0) (by simp), hone (g1, c1, m1) (by simp)⟩, ?_⟩
  · obtain ⟨A, c, e, _⟩ := LRow.slice hO.1; exact ⟨A, c, e⟩
  · rw [List.append_nil]; exact H2
theorem run_any (w : World) : Calls Tryz.prog 20 #[.string (sealS (imgS im0)), .string (sE 30 30)] w fun e w' => ∃ ev sm A c, e = .returned (.agg #[O Y 0, O Y (-1), O Y 30, O Y 3, O Y 10, O Y ev, O Y sm, .bool false, .slice A 0 c]) ∧ Below w.heap.size w w' := by
 have hLd := fun w => ZZ (load_any im0 im0_imok im0_ok im0_small im0_size w); have hDe := fun w => ZZ (edec_any 30 w (by decide)); replace hLd := ZZ hLd; replace hDe := ZZ hDe; generalize sealS (imgS im0) = sI at *; generalize sE 30 30 = sJ at *; have hB := (BR w.heap.size w).alloc (NR _) (.cells #[O Y 0, O Y 0, O Y 0, O Y 0, O Y 0, O Y 0, O Y 0, .bool false, .slice none 0 0] 70); have hr := heap_alloc_last w (.cells #[O Y 0, O Y 0, O Y 0, O Y 0, O Y 0, O Y 0, O Y 0, .bool false, .slice none 0 0] 70); obtain ⟨g0, hg0⟩ : ∃ g0, w.heap.size = g0 := ⟨_, rfl⟩
 obtain ⟨W1, hW1⟩ : ∃ W1, w.alloc (.cells #[O Y 0, O Y 0, O Y 0, O Y 0, O Y 0, O Y 0, O Y 0, .bool false, .slice none 0 0] 70) = W1 := ⟨_, rfl⟩
 rw [hW1, hg0] at hr; replace hr := ZZ hr; rw [hW1] at hB; have hg0w := ZZ (Nat.le_of_eq hg0); replace hg0 := ZZ hg0; replace hB := ZZ hB; go_enter Tryz.func20, Tryz.ntmps20; go_wp2_with fail; rw [hg0.out]; clear hW1; refine (hDe.out _).out.mono ?_; rintro e w2 ⟨v, us, rfl, hul, hus, hrow, hb2⟩; have hr2 := (hb2.block _ (ltA hr.out)).trans hr.out; replace hrow := ZZ hrow; replace hul := ZZ hul; replace hus := ZZ hus; replace hB := ZZ (hB.out.trans (hb2.mono hB.out.size)); clear hb2 hr; go_wp2_with fail; refine (hLd.out _).out.mono ?_; rintro e w3 ⟨p, vv, rfl, hV, -, hp1, hb3⟩; obtain ⟨Ar, nr, cr, Ap, cp, Ac, nc, cc, rfl, -, -⟩ := hV; obtain ⟨w0, F, V, rfl, hb0, hF, H⟩ := mac_known (hp1 im0_jud); rw [im0_jud]; generalize judAt im0 = jA; generalize (judR im0).length = n3; have hE := LRow.low (LRow.step hrow.out hb0) (Nat.zero_le _); have hr3 := (hb0.block _ (ltA hr2)).trans hr2; have hgl := (ltA hr3); have hgl0 := (ltA ((hb0.block _ (ltA hr2)).trans hr2)); replace hB := ZZ (hB.out.trans (hb0.mono hB.out.size)); have hn := heap_alloc_last w3 (.cells #[O Y 0, O Y jA, .slice Ar nr cr, .slice Ap n3 cp, .slice Ac nc cc] 34); have H4 := H.new 34 #[O Y 0, O Y jA, .slice Ar nr cr, .slice Ap n3 cp, .slice Ac nc cc]; obtain ⟨W4, e4⟩ : ∃ W4, w3.alloc (.cells #[O Y 0, O Y jA, .slice Ar nr cr, .slice Ap n3 cp, .slice Ac nc cc] 34) = W4 := ⟨_, rfl⟩
 rw [e4] at hn H4; have y0 := bk hn 0 (O Y 0); have y1 := bk hn 1 (O Y jA); have hP := ZZ (kplay_any H4 hF hE hul.out hus.out); replace hr3 := ZZ hr3; replace H4 := ZZ H4; replace hF := ZZ hF; replace hgl := ZZ hgl; clear hLd hDe hp1 hb3 hb0 H hE hrow hr2 hn; go_wp2_with fail; refine hP.out.mono ?_; rintro e w5 ⟨sm, A, c, rfl, hb5⟩; generalize (repK 30).ev = ev; have hr5 := (hb5.block _ hgl.out).trans hr3.out; have hs70 : (Tryz.prog.info? 70).map (·.size) = some 9 := by kernel_rfl
 have hone : Array.all (#[O Y 0, O Y (-1), O Y 30, O Y 3, O Y 10, O Y ev, O Y sm, .bool false, .slice A 0 c] : Array Value) (·.oneCell') = true := by kernel_rfl
 replace hB := ZZ (hB.out.trans (hb5.mono hB.out.size)); clear hP y0 y1 e4; go_wp2_with (first | (refine wpList_store_row rfl 70 _ _ rfl g0 #[O Y 0, O Y (-1), O Y 30, O Y 3, O Y 10, O Y ev, O Y sm, .bool false, .slice A 0 c] rfl rfl 70 _ hr5 hs70 rfl hone ?_) | fail)
 have mz := setRow_heap w5 g0 _ #[O Y 0, O Y (-1), O Y 30, O Y 3, O Y 10, O Y ev, O Y sm, .bool false, .slice A 0 c] 70 (0, 0) hr5; exact bodyPost_ret (results_cell_row rfl _ _ g0 70 _ (0, 0) _ rfl mz Tryz.underlying70 rfl hs70) rfl ⟨ev, sm, A, c, rfl, Below.setRow hB.out _ hg0w.out⟩
end Go.Proofs.YtoopeamoejmjeaaGreat.Tp
