/- Steps of the walk, merged and shortened by a program (fit.py). -/
import Derived.DeepKeys4
import Derived.KernelRfl
import Derived.Lib.Hide
import Derived.Maps.Keyed
import Derived.Maps.Range
import Derived.RegionTactic
import Derived.Test.YtoopeamoejmjeaaGreatA01
import Derived.Test.YtoopeamoejmjeaaGreatA06
import Derived.Test.YtoopeamoejmjeaaGreatWCut
set_option linter.unusedVariables false
set_option linter.unusedSimpArgs false
set_option maxRecDepth 100000
set_option maxHeartbeats 4000000
open Nat renaming le_refl → NR
open List renaming getElem?_eq_getElem → GE
open Go.RowKit.Below renaming refl → BR
open ByteArray renaming empty → BE
open List renaming getD_eq_getElem?_getD → GD
open Array renaming mem_of_getElem? → AM
open List renaming mem_of_getElem? → LM
open List renaming getElem?_eq_some_iff → GI
open List renaming map_toArray → MA
open Go.RowKit.Below renaming heap_setCell → BH
open Go.Lib renaming hid → ZZ
open Go.Value renaming int → O
open Go.IntKind renaming i64 → Y
namespace Go.Proofs.YtoopeamoejmjeaaGreat.Tp
open RowKit YtoopeamoejmjeaaGreatW.PrintWords YtoopeamoejmjeaaGreatW.PrintLast YtoopeamoejmjeaaGreatW.PrintMore Tm
def ArrAt (W : World) (v : Value) (M : List Int) (n : Nat) : Prop := ∃ g, v = .slice (some ⟨g, 0, none⟩) n n ∧ M.length = n ∧ W.heap[g]? = some (.cells (arrI M) 3 (0, 0))
theorem ArrAt.step {W W' : World} {v : Value} {M : List Int} {n : Nat} (h : ArrAt W v M n) (hb : Below W.heap.size W W') : ArrAt W' v M n := by
 obtain ⟨g, h1, h3, h2⟩ := h; exact ⟨g, h1, h3, (hb.block g (ltA h2)).trans h2⟩
def matchP (l : List I3) : List Int := match scanP l with
 | some r => r.1
 | none => []
def homeP (l : List I3) : List Int := match scanP l with
 | some r => r.2
 | none => []
theorem scan_ok (l : List I3) (hs : (scanP l).isSome = true) : scanP l = some (matchP l, homeP l) := by
 unfold matchP homeP; cases h : scanP l with
 | none => rw [h] at hs; cases hs
 | some r => rfl
theorem scan_some (v : Value) (l : List I3) (w : World) (h : CodeAt w v l) (hl : OkL l) (hs : (scanP l).isSome = true) : Calls Tryz.prog 108 #[v] w fun e w' => ∃ vm vh, e = .returned (.tuple #[vm, vh, O Y 0]) ∧ ArrAt w' vm (matchP l) l.length ∧ ArrAt w' vh (homeP l) l.length ∧ Below w.heap.size w w' := by
 refine (scan_any v l w h hl).mono ?_; intro e w' hh; rw [scan_ok l hs] at hh; obtain ⟨hb, gm, gh, h1, h2, h3, h4, h5⟩ := hh; exact ⟨_, _, h1, ⟨gm, rfl, h2, h4⟩, ⟨gh, rfl, h3, h5⟩, hb⟩
theorem scan_none (v : Value) (l : List I3) (w : World) (h : CodeAt w v l) (hl : OkL l) (hs : (scanP l).isSome = false) : Calls Tryz.prog 108 #[v] w fun e w' => e = .returned (.tuple #[.slice none 0 0, .slice none 0 0, O Y 7]) ∧ Below w.heap.size w w' := by
 refine (scan_any v l w h hl).mono ?_; intro e w' hh; rw [show scanP l = none by cases h : scanP l with | none => rfl | some r => rw [h] at hs; cases hs] at hh; exact ⟨hh.2, hh.1⟩
theorem match_any (v : Value) (l : List I3) (w : World) (h : CodeAt w v l) (hl : OkL l) (hs : (scanP l).isSome = true) : Calls Tryz.prog 60 #[v] w fun e w' => ∃ vm, e = .returned (.tuple #[vm, O Y 0]) ∧ ArrAt w' vm (matchP l) l.length ∧ Below w.heap.size w w' := by
 have hS := ZZ (scan_some v l w h hl hs); clear h; go_enter Tryz.func60, Tryz.ntmps60; go_wp2_with fail; refine hS.out.mono ?_; rintro e w1 ⟨vm, vh, rfl, hm, hh, hb⟩; replace hm := ZZ hm; replace hh := ZZ hh; replace hb := ZZ hb; go_wp2_with fail; refine bodyPost_ret (results_tmp2 rfl _ _ _) rfl ?_; exact ⟨_, rfl, hm.out, hb.out⟩
theorem home_any (v : Value) (l : List I3) (w : World) (h : CodeAt w v l) (hl : OkL l) (hs : (scanP l).isSome = true) : Calls Tryz.prog 104 #[v] w fun e w' => ∃ vm, e = .returned (.tuple #[vm, O Y 0]) ∧ ArrAt w' vm (homeP l) l.length ∧ Below w.heap.size w w' := by
 have hS := ZZ (scan_some v l w h hl hs); clear h; go_enter Tryz.func104, Tryz.ntmps104; go_wp2_with fail; refine hS.out.mono ?_; rintro e w1 ⟨vm, vh, rfl, hm, hh, hb⟩; replace hm := ZZ hm; replace hh := ZZ hh; replace hb := ZZ hb; go_wp2_with fail; refine bodyPost_ret (results_tmp2 rfl _ _ _) rfl ?_; exact ⟨_, rfl, hh.out, hb.out⟩
def endsF (last : Nat) : List I3 → Nat → Bool
 | [], _ => true
 | x :: r, k => ((x.o == 25) == ((k : Int) == (last : Int))) && endsF last r (k + 1)
def jumpsF (h : List Int) (last : Nat) : List I3 → Nat → Bool
 | [], _ => true
 | x :: r, k => (if x.o = 19 ∨ x.o = 20 then decide ((k : Int) + 1 + x.a ≤ (last : Int)) && (h.getD ((k : Int) + 1 + x.a).toNat 0 == h.getD k 0) else true) && jumpsF h last r (k + 1)
def wholeP (l : List I3) : Int := if (scanP l).isSome = true then (if endsF (l.length - 1) l 0 = true then (if jumpsF (homeP l) (l.length - 1) l 0 = true then 0 else 8) else 7) else 7
theorem jump_bd {x : I3} (h : okI x = true) (ho : x.o = 19 ∨ x.o = 20) : 0 ≤ x.a ∧ x.a ≤ 199 := by
 unfold okI rightI at h; have hk : (kindOf x.o).args = 1 ∧ (kindOf x.o).low = 0 ∧ (kindOf x.o).high = 199 := by
  rcases ho with ho | ho <;> rw [ho] <;> exact ⟨by decide, by decide, by decide⟩
 simp only [hk.1, hk.2.1, hk.2.2] at h; simp at h; omega
theorem endsF_cons {last : Nat} {l : List I3} {k : Nat} {x : I3} (hx : l[k]? = some x) : endsF last (l.drop k) k = (((x.o == 25) == ((k : Int) == (last : Int))) && endsF last (l.drop (k + 1)) (k + 1)) := by
 rw [drop_consT l k x hx, endsF]
theorem jumpsF_cons {h : List Int} {last : Nat} {l : List I3} {k : Nat} {x : I3} (hx : l[k]? = some x) : jumpsF h last (l.drop k) k = ((if x.o = 19 ∨ x.o = 20 then decide ((k : Int) + 1 + x.a ≤ (last : Int)) && (h.getD ((k : Int) + 1 + x.a).toNat 0 == h.getD k 0) else true) && jumpsF h last (l.drop (k + 1)) (k + 1)) := by
 rw [drop_consT l k x hx, jumpsF]
def WRel (w : World) (l : List I3) (vh : Value) (f : List I3 → Nat → Bool) (vi : Value) (wr : World) : Prop := ∃ k : Nat, k ≤ l.length ∧ vi = O Y k ∧ f l 0 = f (l.drop k) k ∧ ArrAt wr vh (homeP l) l.length ∧ Below w.heap.size w wr
theorem ArrAt.at {W : World} {g : Nat} {n m p : Nat} {M : List Int} (h : ArrAt W (.slice (some ⟨g, 0, none⟩) n m) M p) (k : Nat) (hk : k < p) : W.cell? ⟨g, k, none⟩ = some (O Y (M.getD k 0)) := by
 obtain ⟨g', h1, h3, h2⟩ := h; injection h1 with h1
 injection h1 with h1
 injection h1 with h1
 subst h1; refine (blk_cell h2 k).trans (arrI_get _ _ _ ?_); rw [GD, GE (by omega)]; rfl
theorem whole_any (v : Value) (l : List I3) (w : World) (h : CodeAt w v l) (hl : OkL l) : Calls Tryz.prog 102 #[v] w fun e w' => e = .returned (O Y (wholeP l)) ∧ Below w.heap.size w w' := by
 obtain ⟨A, c, rfl, hc, _⟩ := id h; have hlen := hl.le; have hpos := hl.pos; cases hs : (scanP l).isSome with
 | false =>
  have hS := ZZ (scan_none _ l w h hl hs); have hP := ZZ (show wholeP l = 7 by unfold wholeP; rw [hs]; rfl); clear h; go_enter Tryz.func102, Tryz.ntmps102; go_wp2_with fail; refine hS.out.mono ?_; rintro e w1 ⟨rfl, hb⟩; replace hb := ZZ hb; go_wp2_with fail; go_ret; exact ⟨by rw [hP.out]; rfl, hb.out⟩
 | true =>
  have hS := ZZ (scan_some _ l w h hl hs); have hP := ZZ (show wholeP l = (if endsF (l.length - 1) l 0 = true then (if jumpsF (homeP l) (l.length - 1) l 0 = true then 0 else 8) else 7) by unfold wholeP; rw [hs]; rfl); have H0 := ZZ h; have hl0 := ZZ hl; obtain ⟨last, hlast⟩ : ∃ last, l.length = last + 1 := ⟨l.length - 1, by omega⟩
  have hll : l.length - 1 = last := by omega
  rw [hll] at hP; have e2 := ZZ (show (l.length : Int) - 1 = (last : Int) by omega); have e1 := ZZ (show wrap64 (last : Int) = (last : Int) from wrapIn (by omega)); replace hlast := ZZ hlast; replace hll := ZZ hll; clear h hl; go_enter Tryz.func102, Tryz.ntmps102; go_wp2_with fail; refine hS.out.mono ?_; rintro e w1 ⟨vm, vh, rfl, -, hh, hb⟩; obtain ⟨gh, rfl, -⟩ := id hh; replace hh := ZZ hh; replace hb := ZZ hb; replace e1 := e1.out; replace e2 := e2.out; clear hS hs; go_wp2_with fail; clear e2; go_loopw [26] (fun vi wr => WRel w l (.slice (some ⟨gh, 0, none⟩) l.length l.length) (endsF last) vi wr) (fun vi _ => l.length - (intOf vi).toNat); case atStart => exact ⟨0, by omega, rfl, rfl, hh.out, hb.out⟩
  case round =>
   obtain ⟨k, hk, rfl, heq, hA, hB⟩ := hrel; replace hA := ZZ hA; replace hB := ZZ hB; by_cases hd : k < l.length
   · obtain ⟨x, hx⟩ : ∃ x, l[k]? = some x := ⟨_, GE hd⟩
     have b1 : ((k : Nat) : Int) < (l.length : Int) := by omega
     have b2 : decide (l.length ≤ k) = false := decide_eq_false (by omega); have b3 : (k : Int) ≤ 200 := by omega
     obtain ⟨ad, rfl, c0, c1, c2⟩ := (H0.out.step hB.out).cells k x hx; rw [endsF_cons hx] at heq; have al := (BR wr.heap.size wr).alloc (NR _) (.cells #[O Y x.o, O Y x.a, O Y x.b] 127); have hA2 := ZZ (hA.out.step al); have hB2 := ZZ (hB.out.alloc hB.out.size (.cells #[O Y x.o, O Y x.a, O Y x.b] 127)); replace hd := ZZ hd; clear hx hk al; cases hq : ((x.o == 25) == ((k : Int) == (last : Int))) with
     | false =>
      rw [hq] at heq; have hP2 := ZZ (show wholeP l = 7 by rw [hP.out, heq]; rfl); have hq2 : ((x.o == 25) != ((k : Int) == (last : Int))) = true := by rw [bne, hq]; rfl
      clear heq; go_wp2_with fail; go_ret; exact ⟨by rw [hP2.out]; rfl, hB2.out⟩
     | true =>
      rw [hq] at heq; replace heq := ZZ heq; have hq2 : ((x.o == 25) != ((k : Int) == (last : Int))) = false := by rw [bne, hq]; rfl
      go_wp2_with fail; exact ⟨⟨k + 1, hd.out, by go_num, heq.out, hA2.out, hB2.out⟩, by have := hd.out; simp [intOf]; omega⟩
   · have b1 : ¬ (((k : Nat) : Int) < (l.length : Int)) := by omega
     have hke : k = l.length := by omega
     subst hke; rw [List.drop_length, endsF] at heq; have hP2 := ZZ (show wholeP l = (if jumpsF (homeP l) last l 0 = true then 0 else 8) by rw [hP.out, heq]; rfl); clear hk hd heq hP hh hb; replace e1 := ZZ e1; go_wp2_with fail; clear b1; go_loopw [41] (fun vi wr => WRel w l (.slice (some ⟨gh, 0, none⟩) l.length l.length) (jumpsF (homeP l) last) vi wr) (fun vi _ => l.length - (intOf vi).toNat); case atStart => exact ⟨0, by omega, rfl, rfl, hA.out, hB.out⟩
     case round =>
      obtain ⟨k, hk, rfl, heq, hA, hB⟩ := hrel; replace hA := ZZ hA; replace hB := ZZ hB; by_cases hd : k < l.length
      · obtain ⟨x, hx⟩ : ∃ x, l[k]? = some x := ⟨_, GE hd⟩
        have b1 : ((k : Nat) : Int) < (l.length : Int) := by omega
        have b2 : decide (l.length ≤ k) = false := decide_eq_false (by omega); have b3 : (k : Int) ≤ 200 := by omega
        obtain ⟨ad, rfl, c0, c1, c2⟩ := (H0.out.step hB.out).cells k x hx; rw [jumpsF_cons hx] at heq; have hok := hl0.out.all x (LM hx); have al := (BR wr.heap.size wr).alloc (NR _) (.cells #[O Y x.o, O Y x.a, O Y x.b] 127); have hA2 := ZZ (hA.out.step al); have hB2 := ZZ (hB.out.alloc hB.out.size (.cells #[O Y x.o, O Y x.a, O Y x.b] 127)); clear hx hk al; by_cases h19 : x.o = 19
        · have f1 : (x.o != 19) = false := by rw [h19]; rfl
          have hj := jump_bd hok (.inl h19); rw [if_pos (.inl h19)] at heq; replace h19 := ZZ h19; obtain ⟨m, hm⟩ : ∃ m : Nat, (k : Int) + 1 + x.a = (m : Int) := ⟨((k : Int) + 1 + x.a).toNat, by omega⟩
          rw [hm, Int.toNat_natCast] at heq; have hm9 : m ≤ 400 := by omega
          have w1 : wrap64 (m : Int) = (m : Int) := wrapIn (by omega); replace hok := ZZ hok; by_cases hg : last < m
          · have g1 : (last : Int) < (m : Int) := by omega
            rw [decide_eq_false (by omega)] at heq; have hP3 := ZZ (show wholeP l = 8 by rw [hP2.out, heq]; rfl); clear heq hj hm9; go_wp2_with fail; refine st 14 (S := fun w' => True) (ds := []) trivial (fun hHeld => ?_); refine pq 0 ?_; refine pq 1 ?_; refine pq 2 ?_; refine pq 3 ?_; refine po 4 ?_; refine po 5 ?_; refine po 6 ?_; refine po 8 ?_; refine po 9 ?_; refine po 10 ?_; refine po 7 ?_; refine po 11 ?_; refine po 12 ?_; refine pq 13 ?_; refine dn ?_; go_wp2_with fail; go_ret; exact ⟨by rw [hP3.out]; rfl, hB2.out.drew⟩
          · have g1 : ¬ ((last : Int) < (m : Int)) := by omega
            have hml : m < l.length := by have := hlast.out; omega
            have b4 : (m : Int) < (l.length : Int) := by omega
            have b5 : decide (l.length ≤ m) = false := decide_eq_false (by omega); rw [decide_eq_true (by omega)] at heq; have t0 := hA2.out.at m hml; have t1 := hA2.out.at k hd; generalize (homeP l).getD m 0 = va at *; generalize (homeP l).getD k 0 = vb at *; replace hd := ZZ hd; replace hml := ZZ hml; clear hj hm9; cases hq : va == vb with
            | false =>
             have f3 : (va != vb) = true := by rw [bne, hq]; rfl
             rw [hq] at heq; have hP3 := ZZ (show wholeP l = 8 by rw [hP2.out, heq]; rfl); clear heq; go_wp2_with fail; refine st 14 (S := fun w' => w'.cell? ⟨gh, m, none⟩ = some (O Y va) ∧ w'.cell? ⟨gh, k, none⟩ = some (O Y vb)) (ds := []) ⟨t0, t1⟩ (fun hHeld => ?_); refine pq 0 ?_; refine pq 1 ?_; refine pq 2 ?_; refine pq 3 ?_; refine pq 4 ?_; refine pq 5 ?_; refine pq 6 ?_; refine pq 8 ?_; refine pq 9 ?_; refine pq 10 ?_; refine tk 7 hHeld ?_; refine tk 11 hHeld ?_; refine pq 12 ?_; refine pq 13 ?_; refine dn ?_; go_wp2_with fail; go_ret; exact ⟨by rw [hP3.out]; rfl, hB2.out.drew⟩
            | true =>
             have f3 : (va != vb) = false := by rw [bne, hq]; rfl
             rw [hq] at heq; replace heq := ZZ heq; go_wp2_with fail; refine st 14 (S := fun w' => w'.cell? ⟨gh, m, none⟩ = some (O Y va) ∧ w'.cell? ⟨gh, k, none⟩ = some (O Y vb)) (ds := []) ⟨t0, t1⟩ (fun hHeld => ?_); refine pq 0 ?_; refine pq 1 ?_; refine pq 2 ?_; refine pq 3 ?_; refine pq 4 ?_; refine pq 5 ?_; refine pq 6 ?_; refine pq 8 ?_; refine pq 9 ?_; refine pq 10 ?_; refine tk 7 hHeld ?_; refine tk 11 hHeld ?_; refine pq 12 ?_; refine pq 13 ?_; refine dn ?_; go_wp2_with fail; exact ⟨⟨k + 1, hd.out, by go_num, heq.out, hA2.out.step (BR _ _).drew, hB2.out.drew⟩, by have := hd.out; simp [intOf]; omega⟩
        · have f1 : (x.o != 19) = true := bne_iff_ne.mpr h19; by_cases h20 : x.o = 20
          · have f2 : (x.o != 20) = false := by rw [h20]; rfl
            have hj := jump_bd hok (.inr h20); rw [if_pos (.inr h20)] at heq; replace h19 := ZZ h19; replace h20 := ZZ h20; obtain ⟨m, hm⟩ : ∃ m : Nat, (k : Int) + 1 + x.a = (m : Int) := ⟨((k : Int) + 1 + x.a).toNat, by omega⟩
            rw [hm, Int.toNat_natCast] at heq; have hm9 : m ≤ 400 := by omega
            have w1 : wrap64 (m : Int) = (m : Int) := wrapIn (by omega); replace hok := ZZ hok; by_cases hg : last < m
            · have g1 : (last : Int) < (m : Int) := by omega
              rw [decide_eq_false (by omega)] at heq; have hP3 := ZZ (show wholeP l = 8 by rw [hP2.out, heq]; rfl); clear heq hj hm9; go_wp2_with fail; refine st 14 (S := fun w' => True) (ds := []) trivial (fun hHeld => ?_); refine pq 0 ?_; refine pq 1 ?_; refine pq 2 ?_; refine pq 3 ?_; refine po 4 ?_; refine po 5 ?_; refine po 6 ?_; refine po 8 ?_; refine po 9 ?_; refine po 10 ?_; refine po 7 ?_; refine po 11 ?_; refine po 12 ?_; refine pq 13 ?_; refine dn ?_; go_wp2_with fail; go_ret; exact ⟨by rw [hP3.out]; rfl, hB2.out.drew⟩
            · have g1 : ¬ ((last : Int) < (m : Int)) := by omega
              have hml : m < l.length := by have := hlast.out; omega
              have b4 : (m : Int) < (l.length : Int) := by omega
              have b5 : decide (l.length ≤ m) = false := decide_eq_false (by omega); rw [decide_eq_true (by omega)] at heq; have t0 := hA2.out.at m hml; have t1 := hA2.out.at k hd; generalize (homeP l).getD m 0 = va at *; generalize (homeP l).getD k 0 = vb at *; replace hd := ZZ hd; replace hml := ZZ hml; clear hj hm9; cases hq : va == vb with
              | false =>
               have f3 : (va != vb) = true := by rw [bne, hq]; rfl
               rw [hq] at heq; have hP3 := ZZ (show wholeP l = 8 by rw [hP2.out, heq]; rfl); clear heq; go_wp2_with fail; refine st 14 (S := fun w' => w'.cell? ⟨gh, m, none⟩ = some (O Y va) ∧ w'.cell? ⟨gh, k, none⟩ = some (O Y vb)) (ds := []) ⟨t0, t1⟩ (fun hHeld => ?_); refine pq 0 ?_; refine pq 1 ?_; refine pq 2 ?_; refine pq 3 ?_; refine pq 4 ?_; refine pq 5 ?_; refine pq 6 ?_; refine pq 8 ?_; refine pq 9 ?_; refine pq 10 ?_; refine tk 7 hHeld ?_; refine tk 11 hHeld ?_; refine pq 12 ?_; refine pq 13 ?_; refine dn ?_; go_wp2_with fail; go_ret; exact ⟨by rw [hP3.out]; rfl, hB2.out.drew⟩
              | true =>
               have f3 : (va != vb) = false := by rw [bne, hq]; rfl
               rw [hq] at heq; replace heq := ZZ heq; go_wp2_with fail; refine st 14 (S := fun w' => w'.cell? ⟨gh, m, none⟩ = some (O Y va) ∧ w'.cell? ⟨gh, k, none⟩ = some (O Y vb)) (ds := []) ⟨t0, t1⟩ (fun hHeld => ?_); refine pq 0 ?_; refine pq 1 ?_; refine pq 2 ?_; refine pq 3 ?_; refine pq 4 ?_; refine pq 5 ?_; refine pq 6 ?_; refine pq 8 ?_; refine pq 9 ?_; refine pq 10 ?_; refine tk 7 hHeld ?_; refine tk 11 hHeld ?_; refine pq 12 ?_; refine pq 13 ?_; refine dn ?_; go_wp2_with fail; exact ⟨⟨k + 1, hd.out, by go_num, heq.out, hA2.out.step (BR _ _).drew, hB2.out.drew⟩, by have := hd.out; simp [intOf]; omega⟩
          · have f2 : (x.o != 20) = true := bne_iff_ne.mpr h20; rw [if_neg (by omega)] at heq; replace heq := ZZ heq; replace hd := ZZ hd; replace hok := ZZ hok; go_wp2_with fail; exact ⟨⟨k + 1, hd.out, by go_num, heq.out, hA2.out, hB2.out⟩, by have := hd.out; simp [intOf]; omega⟩
      · have b1 : ¬ (((k : Nat) : Int) < (l.length : Int)) := by omega
        have hke : k = l.length := by omega
        subst hke; rw [List.drop_length, jumpsF] at heq; have hP3 := ZZ (show wholeP l = 0 by rw [hP2.out, heq]; rfl); clear hk hd heq; go_wp2_with fail; go_ret; exact ⟨by rw [hP3.out]; rfl, hB.out⟩
structure ScInv (k : Nat) (s : ScanS) : Prop where
 lt : ∀ r ∈ s.S, r.1 < k
 home : ∀ i, i < k → ∀ v, s.H[i]? = some v → v = -1 ∨ ∃ j : Nat, v = (j : Int) ∧ j < i
theorem topA_lt {k : Nat} {s : ScanS} (h : ScInv k s) : topA s.S = -1 ∨ ∃ j : Nat, topA s.S = (j : Int) ∧ j < k := by
 by_cases hS : s.S = []
 · exact .inl (by rw [hS]; rfl)
 · obtain ⟨S1, r, hr⟩ := snoc_of s.S hS; exact .inr ⟨r.1, by rw [hr]; exact topA_snoc S1 r, h.lt r (by rw [hr]; simp)⟩
theorem ScInv.home' {k : Nat} {s : ScanS} (h : ScInv k s) : ∀ i, i < k + 1 → ∀ v, (s.H.set k (topA s.S))[i]? = some v → v = -1 ∨ ∃ j : Nat, v = (j : Int) ∧ j < i := by
 intro i hi v hv; by_cases e : k = i
 · subst e; rw [List.getElem?_set] at hv; split at hv
   · split at hv
     · injection hv with hv
       rw [← hv]; exact topA_lt h
     · cases hv
   · omega
 · rw [List.getElem?_set_ne e] at hv; exact h.home i (by omega) v hv
theorem scan1_inv {k : Nat} {x : I3} {s s' : ScanS} (h : ScInv k s) (e : scan1 k x s = some s') : ScInv (k + 1) s' := by
 unfold scan1 at e; have hl : ∀ r ∈ s.S, r.1 < k + 1 := fun r hr => by have := h.lt r hr; omega
 cases ho : openI x with
 | some y =>
  rw [ho] at e; injection e with e
  subst e; refine ⟨fun r hr => ?_, h.home'⟩; rcases List.mem_append.1 hr with hr | hr
  · exact hl r hr
  · rw [List.mem_singleton.1 hr]; exact Nat.lt_succ_self k
 | none =>
  rw [ho] at e; dsimp only at e; split at e
  · injection e with e
    subst e; exact ⟨hl, h.home'⟩
  · split at e
    · cases e
    · split at e
      · injection e with e
        subst e; exact ⟨fun r hr => hl r (List.dropLast_subset _ hr), h.home'⟩
      · cases e
theorem scanR_inv : ∀ (l : List I3) (k : Nat) (s s' : ScanS), ScInv k s → scanR l k s = some s' → ScInv (k + l.length) s' := by
 intro l; induction l with
 | nil => intro k s s' h e; rw [scanR] at e; injection e with e; subst e; exact h
 | cons x r ih =>
  intro k s s' h e; rw [scanR] at e; split at e
  · cases e
  · rename_i s1 h1; have := ih (k + 1) s1 s' (scan1_inv h h1) e; rw [List.length_cons, show k + (r.length + 1) = k + 1 + r.length by omega]; exact this
theorem home_lt (l : List I3) (hs : (scanP l).isSome = true) (i : Nat) (hi : i < l.length) (hlen : (homeP l).length = l.length) : (homeP l).getD i 0 = -1 ∨ ∃ j : Nat, (homeP l).getD i 0 = (j : Int) ∧ j < i := by
 have h := scan_ok l hs; unfold scanP at h; split at h
 · cases h
 · rename_i s e; split at h
   · injection h with h
     injection h with h1 h2
     have hI := scanR_inv l 0 (scan0 l.length) s ⟨by simp [scan0], by intro i hi; omega⟩ e; rw [GD, GE (by omega)]; refine hI.home i (by omega) _ ?_; rw [h2]; exact GE (by omega)
   · cases h
theorem lock_bd {x : I3} (h : okI x = true) (ho : x.o = 23 ∨ x.o = 24 ∨ x.o = 17 ∨ x.o = 18) : 0 ≤ x.a ∧ x.a ≤ 7 := by
 unfold okI rightI at h; have hk : ((kindOf x.o).args = 1 ∨ (kindOf x.o).args = 2) ∧ (kindOf x.o).low = 0 ∧ (kindOf x.o).high = 7 := by
  rcases ho with ho | ho | ho | ho <;> rw [ho] <;> exact ⟨by decide, by decide, by decide⟩
 simp only [hk.2.1, hk.2.2] at h; rcases hk.1 with hk | hk <;> simp [hk] at h <;> omega
def held1 (l : List I3) (h : List Int) (k : Nat) (E : List Nat) : List Nat := if h.getD k 0 = -1 then E else
 E.set k (if (l.getD (h.getD k 0).toNat ⟨0, 0, 0⟩).o = 23 then E.getD (h.getD k 0).toNat 0 ||| 2 ^ (l.getD (h.getD k 0).toNat ⟨0, 0, 0⟩).a.toNat else E.getD (h.getD k 0).toNat 0)
def heldN (l : List I3) (h : List Int) : Nat → List Nat
 | 0 => List.replicate l.length 0
 | k + 1 => held1 l h k (heldN l h k)
def heldP (l : List I3) : List Nat := heldN l (homeP l) l.length
def intsN (E : List Nat) : List Int := E.map (fun n : Nat => (n : Int))
theorem heldN_len (l : List I3) (h : List Int) (k : Nat) : (heldN l h k).length = l.length := by
 induction k with
 | zero => simp [heldN]
 | succ k ih => rw [heldN, held1]; split <;> simp [ih]
theorem or_lt8 {v a : Nat} (hv : v < 256) (ha : a < 8) : v ||| 2 ^ a < 256 := Nat.or_lt_two_pow (n := 8) hv (Nat.pow_lt_pow_right (by omega) ha)
theorem getD_lt {E : List Nat} (h : ∀ e ∈ E, e < 256) (j : Nat) : E.getD j 0 < 256 := by
 rw [GD]; cases e : E[j]? with
 | none => simp
 | some v => exact h v (LM e)
theorem heldN_lt (l : List I3) (h : List Int) (hok : ∀ x ∈ l, okI x = true) (k : Nat) : ∀ e ∈ heldN l h k, e < 256 := by
 induction k with
 | zero => intro e he; rw [heldN] at he; rw [List.eq_of_mem_replicate he]; omega
 | succ k ih =>
  rw [heldN, held1]; split
  · exact ih
  · intro e he; rcases List.mem_or_eq_of_mem_set he with he | he
    · exact ih e he
    · rw [he]; have hv := getD_lt ih (h.getD k 0).toNat
      split
      · rename_i ho; refine or_lt8 hv ?_; cases hx : l[(h.getD k 0).toNat]? with
        | none =>
         rw [GD, hx] at ho; exact absurd ho (by decide)
        | some x =>
         rw [GD, hx] at ho ⊢; have := lock_bd (hok x (LM hx)) (.inl ho); simp only [Option.getD_some]; omega
      · exact hv
theorem intsN_set (E : List Nat) (k v : Nat) : intsN (E.set k v) = (intsN E).set k (v : Int) := by unfold intsN; rw [List.map_set]
theorem intsN_get (E : List Nat) (k : Nat) : (intsN E).getD k 0 = ((E.getD k 0 : Nat) : Int) := by
 unfold intsN; rw [GD, GD, List.getElem?_map]; cases E[k]? <;> rfl
theorem ArrAt.put {W : World} {g : Nat} {n m p : Nat} {M : List Int} (h : ArrAt W (.slice (some ⟨g, 0, none⟩) n m) M p) (k : Nat) (x : Int) : ArrAt (W.setCell ⟨g, k, none⟩ (O Y x)) (.slice (some ⟨g, 0, none⟩) n m) (M.set k x) p := by
 obtain ⟨g', h1, h3, h2⟩ := h; injection h1 with h1 h1a h1b
 injection h1 with h1
 injection h1 with h1
 subst h1; subst h1a; subst h1b; exact ⟨g, rfl, by simp [h3], by rw [← arrI_set]; exact blk_set h2 k _⟩
theorem ArrAt.far {W : World} {g g' k : Nat} {n m p : Nat} {M : List Int} {x : Value} (h : ArrAt W (.slice (some ⟨g, 0, none⟩) n m) M p) (hne : g ≠ g') : ArrAt (W.setCell ⟨g', k, none⟩ x) (.slice (some ⟨g, 0, none⟩) n m) M p := by
 obtain ⟨g1, h1, h3, h2⟩ := h; have h1' := h1; injection h1 with h1
 injection h1 with h1
 injection h1 with h1
 subst h1; exact ⟨g, h1', h3, (BH _ _ _ _ (by show g ≠ g'; exact hne)).trans h2⟩
theorem ArrAt.fr {W : World} {g : Nat} {n m p : Nat} {M : List Int} (h : ArrAt W (.slice (some ⟨g, 0, none⟩) n m) M p) (k : Nat) : W.frozen? ⟨g, k, none⟩ = false := by
 obtain ⟨g', h1, h3, h2⟩ := h; injection h1 with h1
 injection h1 with h1
 injection h1 with h1
 subst h1; exact blk_frozen h2 k
theorem shl_q (q : Nat) (hq : q < 8) : wrap64 ((2 : Int) ^ q) = 2 ^ q := by
 rcases (by omega : q = 0 ∨ q = 1 ∨ q = 2 ∨ q = 3 ∨ q = 4 ∨ q = 5 ∨ q = 6 ∨ q = 7) with rfl | rfl | rfl | rfl | rfl | rfl | rfl | rfl <;> exact wrapIn (by decide)
theorem or_q {a q : Nat} (ha : a < 256) (hq : q < 8) : bits .or .i64 (a : Int) ((2 : Int) ^ q) = ((a ||| 2 ^ q : Nat) : Int) := by
 have h := (bits_nat .i64 8 (by decide) (fun n h0 h1 => by rw [IntKind.wrap_i64]; omega) a (2 ^ q) ha (Nat.pow_lt_pow_right (by omega) hq)).2; rw [← h]; congr 1
def HRel (w : World) (l : List I3) (gh ge : Nat) (vi : Value) (wr : World) : Prop := ∃ k : Nat, k ≤ l.length ∧ vi = O Y k ∧ ArrAt wr (.slice (some ⟨gh, 0, none⟩) l.length l.length) (homeP l) l.length ∧ ArrAt wr (.slice (some ⟨ge, 0, none⟩) l.length l.length) (intsN (heldN l (homeP l) k)) l.length ∧ Below w.heap.size w wr
theorem held_any (v : Value) (l : List I3) (w : World) (h : CodeAt w v l) (hl : OkL l) (hs : (scanP l).isSome = true) : Calls Tryz.prog 103 #[v] w fun e w' => ∃ ve, e = .returned (.tuple #[ve, O Y 0]) ∧ ArrAt w' ve (intsN (heldP l)) l.length ∧ Below w.heap.size w w' := by
 obtain ⟨A, c, rfl, hc, _⟩ := id h; have hlen := hl.le; have hS := ZZ (scan_some _ l w h hl hs); have H0 := ZZ h; have hl0 := ZZ hl; replace hs := ZZ hs; clear h hl; go_enter Tryz.func103, Tryz.ntmps103; go_wp2_with fail; refine hS.out.mono ?_; rintro e w1 ⟨vm, vh, rfl, -, hh, hb⟩; obtain ⟨gh, rfl, hgl, hgb⟩ := id hh; have hgw := (ltA hgb); have al := (BR w1.heap.size w1).alloc (NR _) (.cells (arrI (List.replicate l.length 0)) 3); have hh2 := ZZ (hh.step al); have hb2 := ZZ (hb.alloc hb.size (.cells (arrI (List.replicate l.length 0)) 3)); have he2 := ZZ (show ArrAt (w1.alloc (.cells (arrI (List.replicate l.length 0)) 3)) (.slice (some ⟨w1.heap.size, 0, none⟩) l.length l.length) (intsN (heldN l (homeP l) 0)) l.length from ⟨w1.heap.size, rfl, by simp [intsN, heldN], by rw [show intsN (heldN l (homeP l) 0) = List.replicate l.length 0 by simp [intsN, heldN]]; exact heap_alloc_last w1 _⟩); have hne := ZZ (show gh ≠ w1.heap.size ∧ w.heap.size ≤ w1.heap.size from ⟨by omega, hb.size⟩); have mk := mk22 l.length (by omega); clear hh hb al hgb hgw hS; go_wp2_with fail; clear mk; generalize w1.heap.size = ge at *; generalize w1.alloc (.cells (arrI (List.replicate l.length 0)) 3) = W2 at *; replace hgl := ZZ hgl; go_loopw [24] (fun vi wr => HRel w l gh ge vi wr) (fun vi _ => l.length - (intOf vi).toNat); case atStart => exact ⟨0, by omega, rfl, hh2.out, he2.out, hb2.out⟩
 case round =>
  obtain ⟨k, hk, rfl, hH, hE, hB⟩ := hrel; by_cases hd : k < l.length
  · have b1 : ((k : Nat) : Int) < (l.length : Int) := by omega
    have b2 : decide (l.length ≤ k) = false := decide_eq_false (by omega); have b3 : (k : Int) ≤ 200 := by omega
    have t0 := hH.at k hd; have hN := heldN_lt l (homeP l) hl0.out.all k; have hst : heldN l (homeP l) (k + 1) = held1 l (homeP l) k (heldN l (homeP l) k) := rfl; rcases home_lt l hs.out k hd hgl.out with hv | ⟨j, hv, hj⟩
    · rw [hv] at t0; unfold held1 at hst; rw [if_pos hv] at hst; replace hst := ZZ hst; replace hH := ZZ hH; replace hE := ZZ hE; replace hB := ZZ hB; replace hd := ZZ hd; clear hN hv hk; go_wp2_with fail; exact ⟨⟨k + 1, hd.out, by go_num, hH.out, by rw [hst.out]; exact hE.out, hB.out⟩, by have := hd.out; simp [intOf]; omega⟩
    · rw [hv] at t0; have b4 : ((j : Nat) : Int) < (l.length : Int) := by omega
      have b5 : decide (l.length ≤ j) = false := decide_eq_false (by omega); have b6 : ((j : Nat) : Int) ≠ -1 := by omega
      have b7 : (((j : Nat) : Int) == -1) = false := beq_eq_false_iff_ne.mpr b6; have t1 := hE.at j (by omega); have t2 := hE.at k hd; have t3 := hE.fr k; rw [intsN_get] at t1 t2; obtain ⟨x, hx⟩ : ∃ x, l[j]? = some x := ⟨_, GE (by omega)⟩
      obtain ⟨vj, hvj⟩ : ∃ vj, (heldN l (homeP l) k).getD j 0 = vj := ⟨_, rfl⟩
      have hv256 : vj < 256 := by rw [← hvj]; exact getD_lt hN j
      unfold held1 at hst; rw [if_neg (by rw [hv]; omega), hv, Int.toNat_natCast, hvj, GD, hx, Option.getD_some] at hst; rw [hvj] at t1; have hE2 := hE.put k (vj : Int); have hH2 := hH.far (k := k) (x := O Y (vj : Int)) hne.out.1; have hB2 := hB.setCell (p := ⟨ge, k, none⟩) (by exact hne.out.2) (O Y (vj : Int)); obtain ⟨ad, rfl, c0, c1, c2⟩ := (H0.out.step hB2).cells j x hx; have hok := ZZ (hl0.out.all x (LM hx)); obtain ⟨W3, hW3⟩ : ∃ W3, wr.setCell ⟨ge, k, none⟩ (O Y (vj : Int)) = W3 := ⟨_, rfl⟩
      rw [hW3] at hE2 hH2 hB2 c0 c1 c2; by_cases h23 : x.o = 23
      · rw [if_pos h23] at hst; have f1 : (x.o == 23) = true := beq_iff_eq.mpr h23; have hab := lock_bd hok.out (.inl h23); obtain ⟨q, hq⟩ : ∃ q : Nat, x.a = (q : Int) := ⟨x.a.toNat, by omega⟩
        have hq8 : q < 8 := by omega
        rw [hq] at hst c1; rw [Int.toNat_natCast] at hst; have hS1 := shl_q q hq8; have hS2 := or_q hv256 hq8; have hE3 := (hE2.step (BR _ _).drew).put k ((vj ||| 2 ^ q : Nat) : Int); have hH3 := (hH2.step (BR _ _).drew).far (k := k) (x := O Y ((vj ||| 2 ^ q : Nat) : Int)) hne.out.1; have hB3 := hB2.drew.setCell (p := ⟨ge, k, none⟩) (by exact hne.out.2) (O Y ((vj ||| 2 ^ q : Nat) : Int)); have u0 := hE2.at k hd; rw [show (List.set (intsN (heldN l (homeP l) k)) k (vj : Int)).getD k 0 = (vj : Int) by rw [GD, List.getElem?_set_self (by simp [intsN, heldN_len, hd])]; rfl] at u0; have u2 := (hE2.step (BR _ _).drew).fr k; replace hst := ZZ hst; replace hE3 := ZZ hE3; replace hH3 := ZZ hH3; replace hB3 := ZZ hB3; replace hd := ZZ hd; replace h23 := ZZ h23; clear hN hv hk hH hE hB hvj hx hj hE2 hH2 hB2 hab; go_wp2_with fail; refine st 13 (S := fun w' => w'.cell? ⟨ge, k, none⟩ = some (O Y (vj : Int)) ∧ w'.cell? ⟨(ad.add (j * 3)).block, (ad.add (j * 3)).off + 1, none⟩ = some (O Y (q : Int))) (ds := [12]) ⟨u0, c1⟩ (fun hHeld => ?_); refine pq 0 ?_; refine pq 1 ?_; refine pq 2 ?_; refine pq 4 ?_; refine pq 5 ?_; refine pq 6 ?_; refine pq 7 ?_; refine tk 3 hHeld ?_; refine tk 8 hHeld ?_; refine pq 9 ?_; refine pq 10 ?_; refine pq 11 ?_; refine rg2 12 (fun K hK => ?_); refine skip_ (w1 := ?_) (by rfl) rfl ?_ ?_; rotate_left
        · go_simp; rfl
        refine hK.out _ _ ?_; clear hK K; refine dn ?_; try clear hHeld
        go_wp2_with fail; exact ⟨⟨k + 1, hd.out, by go_num, hH3.out, by have q1 := hE3.out; rw [List.set_set, ← intsN_set, ← hst.out] at q1; exact q1, hB3.out⟩, by have := hd.out; simp [intOf]; omega⟩
      · rw [if_neg h23] at hst; have f1 : (x.o == 23) = false := beq_eq_false_iff_ne.mpr h23; replace hst := ZZ hst; replace hE2 := ZZ hE2; replace hH2 := ZZ hH2; replace hB2 := ZZ hB2; replace hd := ZZ hd; replace h23 := ZZ h23; clear hN hv hk hH hE hB hvj hx hj; go_wp2_with fail; exact ⟨⟨k + 1, hd.out, by go_num, hH2.out, by rw [hst.out, intsN_set]; exact hE2.out, hB2.out⟩, by have := hd.out; simp [intOf]; omega⟩
  · have b1 : ¬ (((k : Nat) : Int) < (l.length : Int)) := by omega
    have hke : k = l.length := by omega
    subst hke; replace hE := ZZ hE; replace hB := ZZ hB; clear hk hd hH; go_wp2_with fail; refine bodyPost_ret (results_tmp2 rfl _ _ _) rfl ?_; exact ⟨_, rfl, hE.out, hB.out⟩
def loopF (l : List I3) (h : List Int) : Nat → Int → Bool
 | 0, _ => false
 | f + 1, v => if v = -1 then false else if (l.getD v.toNat ⟨0, 0, 0⟩).o = 21 then true else loopF l h f (h.getD v.toNat 0)
def loopedP (l : List I3) (n : Nat) : Bool := loopF l (homeP l) (n + 1) ((homeP l).getD n 0)
def LpRel (l : List I3) (n : Nat) (w : World) (vi : Value) (wr : World) : Prop := ∃ (f : Nat) (v : Int), vi = O Y v ∧ wr = w ∧ loopF l (homeP l) f v = loopedP l n ∧ (v = -1 ∨ ∃ m : Nat, v = (m : Int) ∧ m < l.length) ∧ v < f
theorem loopF_neg (l : List I3) (h : List Int) (f : Nat) : loopF l h f (-1) = false := by cases f <;> simp [loopF]
theorem looped_any (v vh : Value) (l : List I3) (n : Nat) (w : World) (h : CodeAt w v l) (hh : ArrAt w vh (homeP l) l.length) (hl : OkL l) (hs : (scanP l).isSome = true) (hn : n < l.length) : Calls Tryz.prog 105 #[v, vh, O Y (n : Int)] w fun e w' => e = .returned (.bool (loopedP l n)) ∧ w' = w := by
 obtain ⟨A, c, rfl, hc, _⟩ := id h; obtain ⟨gh, rfl, hgl, -⟩ := id hh; have hlen := hl.le; have H0 := ZZ h; have hH := ZZ hh; have hb1 : ((n : Nat) : Int) < (l.length : Int) := by omega
 have b2 : decide (l.length ≤ n) = false := decide_eq_false (by omega); have t0 := hh.at n hn; have hlt := ZZ (fun i hi => home_lt l hs i hi hgl); have hv0 := ZZ (hlt.out n hn); replace hgl := ZZ hgl; clear hh hl hs h; obtain ⟨v0, hv⟩ : ∃ v0, (homeP l).getD n 0 = v0 := ⟨_, rfl⟩
 rw [hv] at t0 hv0; have hst := ZZ (show loopF l (homeP l) (n + 1) v0 = loopedP l n by unfold loopedP; rw [hv]); clear hv; go_enter Tryz.func105, Tryz.ntmps105; go_wp2_with fail; go_loopw [7] (fun vi wr => LpRel l n w vi wr) (fun vi _ => (intOf vi + 1).toNat); case atStart => exact ⟨n + 1, v0, rfl, rfl, hst.out, by rcases hv0.out with h | ⟨j, h, hj⟩; exact .inl h; exact .inr ⟨j, h, by omega⟩, by rcases hv0.out with h | ⟨j, h, hj⟩ <;> omega⟩
 case round =>
  obtain ⟨f, v, rfl, rfl, heq, hv, hf⟩ := hrel; clear t0 b2 hb1 hst hv0; rcases hv with rfl | ⟨m, rfl, hm⟩
  · rw [loopF_neg] at heq; replace heq := ZZ heq; go_wp2_with fail; go_ret; exact ⟨by rw [← heq.out]; rfl, rfl⟩
  · obtain ⟨f, rfl⟩ : ∃ f', f = f' + 1 := ⟨f - 1, by omega⟩
    rw [loopF] at heq; have b6 : ((m : Nat) : Int) ≠ -1 := by omega
    have b7 : (((m : Nat) : Int) != -1) = true := bne_iff_ne.mpr b6; have b4 : ((m : Nat) : Int) < (l.length : Int) := by omega
    have b5 : decide (l.length ≤ m) = false := decide_eq_false (by omega); obtain ⟨x, hx⟩ : ∃ x, l[m]? = some x := ⟨_, GE hm⟩
    obtain ⟨ad, rfl, c0, -⟩ := H0.out.cells m x hx; rw [if_neg b6, Int.toNat_natCast, GD, hx, Option.getD_some] at heq; by_cases h21 : x.o = 21
    · have f1 : (x.o == 21) = true := beq_iff_eq.mpr h21; rw [if_pos h21] at heq; replace heq := ZZ heq; replace h21 := ZZ h21; clear hx; go_wp2_with fail; go_ret; exact ⟨by rw [← heq.out]; rfl, rfl⟩
    · have f1 : (x.o == 21) = false := beq_eq_false_iff_ne.mpr h21; have t1 := hH.out.at m hm; have hv1 := hlt.out m hm; rw [if_neg h21] at heq; obtain ⟨v1, hv1e⟩ : ∃ v1, (homeP l).getD m 0 = v1 := ⟨_, rfl⟩
      rw [hv1e] at t1 hv1 heq; replace heq := ZZ heq; replace hv1 := ZZ hv1; replace hm := ZZ hm; clear hx hv1e; go_wp2_with fail; refine ⟨⟨f, v1, rfl, rfl, heq.out, ?_, ?_⟩, ?_⟩
      · rcases hv1.out with h | ⟨j, h, hj⟩
        · exact .inl h
        · exact .inr ⟨j, h, by have := hm.out; omega⟩
      · rcases hv1.out with h | ⟨j, h, hj⟩ <;> omega
      · show (v1 + 1).toNat < ((m : Int) + 1).toNat
        rcases hv1.out with h | ⟨j, h, hj⟩ <;> omega
def lockF (l : List I3) (h : List Int) (E : List Nat) : List I3 → Nat → Bool → List Int → Option (List Int)
 | [], _, _, out => some out
 | x :: r, k, fr, out => if x.o = 23 then (if fr = false ∧ (E.getD k 0 : Int) / 2 ^ x.a.toNat = 0 ∧ loopedP l k = false then lockF l h E r (k + 1) fr (out ++ [x.a]) else none)
  else if x.o = 24 then lockF l h E r (k + 1) true out
  else if x.o = 17 ∨ x.o = 18 then (if bits .and .i64 ((E.getD k 0 : Int) / 2 ^ x.a.toNat) 1 = 1 then lockF l h E r (k + 1) fr out else none)
  else lockF l h E r (k + 1) fr out
def lockR (l : List I3) : Option (List Int) := lockF l (homeP l) (heldP l) l 0 false []
def locksE (l : List I3) : Int := if wholeP l = 0 then (match lockR l with | none => 11 | some _ => 0) else wholeP l
def locksO (l : List I3) : List Int := if wholeP l = 0 then (lockR l).getD [] else []
theorem lockF_cons {l : List I3} {h : List Int} {E : List Nat} {k : Nat} {x : I3} (hx : l[k]? = some x) (fr : Bool) (out : List Int) : lockF l h E (l.drop k) k fr out = (if x.o = 23 then (if fr = false ∧ (E.getD k 0 : Int) / 2 ^ x.a.toNat = 0 ∧ loopedP l k = false then lockF l h E (l.drop (k + 1)) (k + 1) fr (out ++ [x.a]) else none)
 else if x.o = 24 then lockF l h E (l.drop (k + 1)) (k + 1) true out
 else if x.o = 17 ∨ x.o = 18 then (if bits .and .i64 ((E.getD k 0 : Int) / 2 ^ x.a.toNat) 1 = 1 then lockF l h E (l.drop (k + 1)) (k + 1) fr out else none)
 else lockF l h E (l.drop (k + 1)) (k + 1) fr out) := by
 rw [drop_consT l k x hx, lockF]
theorem IntsAt.nil (W : World) : IntsAt W (.slice none 0 0) [] := ⟨none, 0, rfl, NR _, by simp, fun j u hj => by simp at hj⟩
def LkRel (w : World) (l : List I3) (vo vf vi : Value) (wr : World) : Prop := ∃ (k : Nat) (fr : Bool) (out : List Int), k ≤ l.length ∧ vi = O Y k ∧ vf = .bool fr ∧ LRow wr w.heap.size 3 1 vo out.length (out.map (O Y)) ∧ out.length ≤ k ∧ lockR l = lockF l (homeP l) (heldP l) (l.drop k) k fr out ∧ Below w.heap.size w wr
theorem whole_scan {l : List I3} (h : wholeP l = 0) : (scanP l).isSome = true := by
 unfold wholeP at h; by_cases hs : (scanP l).isSome = true
 · exact hs
 · rw [if_neg hs] at h; omega
theorem locks_any (v : Value) (l : List I3) (w : World) (h : CodeAt w v l) (hl : OkL l) : Calls Tryz.prog 58 #[v] w fun e w' => ∃ vo, e = .returned (.tuple #[vo, O Y (locksE l)]) ∧ IntsAt w' vo (locksO l) ∧ Below w.heap.size w w' := by
 obtain ⟨A, c, rfl, hc, _⟩ := id h; have hlen := hl.le; have hW := ZZ (whole_any _ l w h hl); have H0 := ZZ h; have hl0 := ZZ hl; clear h hl; by_cases hw0 : wholeP l = 0
 · have hs := ZZ (whole_scan hw0); have hE := ZZ (show locksE l = (match lockR l with | none => 11 | some _ => 0) from if_pos hw0); have hO := ZZ (show locksO l = (lockR l).getD [] from if_pos hw0); rw [hw0] at hW; clear hw0; go_enter Tryz.func58, Tryz.ntmps58; go_wp2_with fail; refine hW.out.mono ?_; rintro e w1 ⟨rfl, hb1⟩; have hb1' := ZZ hb1; have H1 := H0.out.step hb1; have hHe := ZZ (held_any _ l w1 H1 hl0.out hs.out); clear H1 hb1 hW; go_wp2_with fail; refine hHe.out.mono ?_; rintro e w2 ⟨ve, rfl, hAe, hb2⟩; have hb2' := ZZ (hb1'.out.trans (hb2.mono hb1'.out.size)); have H2 := H0.out.step hb2'.out; have hHo := ZZ (home_any _ l w2 H2 hl0.out hs.out); replace hAe := ZZ hAe; clear H2 hb2 hHe hb1'; go_wp2_with fail; refine hHo.out.mono ?_; rintro e w3 ⟨vh, rfl, hAh, hb3⟩; have hAe3 := hAe.out.step hb3; have hb3' := ZZ (hb2'.out.trans (hb3.mono hb2'.out.size)); have H3 := ZZ (H0.out.step hb3'.out); obtain ⟨ge, rfl, hel, -⟩ := id hAe3; obtain ⟨gh, rfl, -⟩ := id hAh; replace hAe := ZZ hAe3; replace hAh := ZZ hAh; replace hel := ZZ hel; clear hHo hb3 hAe3 hb2'; go_wp2_with fail; go_loopw [9, 10, 31] (fun vo vf vi wr => LkRel w3 l vo vf vi wr) (fun _ _ vi _ => l.length - (intOf vi).toNat); case atStart => exact ⟨0, false, [], by omega, rfl, rfl, LRow.nil _ _ _ _, by simp, rfl, BR _ _⟩
   case round =>
    obtain ⟨k, fr, o, hk, rfl, rfl, hR, hol, heq, hB⟩ := hrel; have hH := hAh.out.step hB; have hA := hAe.out.step hB; obtain ⟨Ar, co, rfl, -⟩ := LRow.slice hR; by_cases hd : k < l.length
    · obtain ⟨x, hx⟩ : ∃ x, l[k]? = some x := ⟨_, GE hd⟩
      have b1 : ((k : Nat) : Int) < (l.length : Int) := by omega
      have b2 : decide (l.length ≤ k) = false := decide_eq_false (by omega); have b3 : (k : Int) ≤ 200 := by omega
      obtain ⟨ad, rfl, c0, c1, c2⟩ := (H3.out.step hB).cells k x hx; have al := (BR wr.heap.size wr).alloc (NR _) (.cells #[O Y x.o, O Y x.a, O Y x.b] 127); have hb4 := heap_alloc_last wr (.cells #[O Y x.o, O Y x.a, O Y x.b] 127); have y0 := bk hb4 0 (O Y x.o); have y1 := bk hb4 1 (O Y x.a); have hok := hl0.out.all x (LM hx); replace heq := heq.trans (lockF_cons hx fr o); obtain ⟨W1, hW1⟩ : ∃ W1, wr.alloc (.cells #[O Y x.o, O Y x.a, O Y x.b] 127) = W1 := ⟨_, rfl⟩
      have hR1 := LRow.step hR al; have hH1 := hH.step al; have hA1 := hA.step al; have hB1 := hB.alloc hB.size (.cells #[O Y x.o, O Y x.a, O Y x.b] 127); have ts := hA1.at k hd; rw [intsN_get] at ts; obtain ⟨E, hE2⟩ : ∃ E, (heldP l).getD k 0 = E := ⟨_, rfl⟩
      rw [hE2] at ts heq; have hLp := ZZ (looped_any _ _ l k _ ((H3.out.step hB1).step (BR _ _).drew) (hH1.step (BR _ _).drew) hl0.out hs.out hd); rw [hW1] at hR1 hH1 hA1 hB1 ts y0 y1 hLp; replace hR1 := ZZ hR1; replace hH1 := ZZ hH1; replace hA1 := ZZ hA1; replace hB1 := ZZ hB1; replace hd := ZZ hd; clear hx al hb4 hR hH hA hB hE2; by_cases h23 : x.o = 23
      · rw [if_pos h23] at heq; have f1 : (x.o == 23) = true := beq_iff_eq.mpr h23; have hab := lock_bd hok (.inl h23); obtain ⟨q, hq⟩ : ∃ q : Nat, x.a = (q : Int) := ⟨x.a.toNat, by omega⟩
        rw [hq] at heq y1 hab; rw [Int.toNat_natCast] at heq; rw [hq] at hW1 c1; clear hq hok; replace h23 := ZZ h23; have q1 : (q : Int) ≤ 64 := by omega
        have hR2 := ZZ (LRow.step hR1.out (BR _ _).drew); have hB2 := ZZ hB1.out.drew; have q2 : (0 : Int) ≤ (q : Int) := by omega
        have q3 : (q : Int) < 64 := by omega
        cases fr
        · by_cases hz : (E : Int) / 2 ^ q = 0
          · have z1 : ((E : Int) / 2 ^ q == 0) = true := beq_iff_eq.mpr hz; cases hlo : loopedP l k
            · rw [hlo] at hLp; rw [if_pos ⟨rfl, hz, hlo⟩] at heq; replace heq := ZZ heq; replace hz := ZZ hz; clear hlo; go_wp2_with fail; refine st 20 (S := fun w' => w'.cell? ⟨wr.heap.size, 1, none⟩ = some (O Y (q : Int)) ∧ w'.cell? ⟨ge, k, none⟩ = some (O Y (E : Int))) (ds := [16]) ⟨y1, ts⟩ (fun hHeld => ?_); generalize W1.drew = u0 at *; refine pq 0 ?_; refine pq 1 ?_; refine pq 2 ?_; refine pq 3 ?_; refine pq 4 ?_; refine pq 5 ?_; refine pq 7 ?_; refine tk 6 hHeld ?_; refine tk 8 hHeld ?_; refine pq 9 ?_; refine pq 10 ?_; refine pq 11 ?_; refine pq 12 ?_; refine pq 13 ?_; refine pq 14 ?_; refine pq 15 ?_; refine rg2 16 (fun K hK => ?_); refine goes_ Tryz.func105 (by kernel_rfl) rfl #[_, _, _] (by rfl) rfl rfl (by (try simp only [MA, List.map_cons, List.map_nil]); first | done | rfl) ?_; refine (hLp.out).mono ?_; rintro e w9 ⟨rfl, hw9⟩; refine ⟨_, rfl, ?_⟩; rw [hw9]; refine hK.out _ _ ?_; clear hK K; refine nm ?_; refine pq 17 ?_; refine pq 18 ?_; refine pq 19 ?_; refine dn ?_; clear y0 y1 ts hLp; go_wp2_with (first | (at_builtin; refine wpList_append_one w3 u0 w3.heap.size rfl (.tmp 59) (.tmp 62) 22 3 _ 1 8 rfl Tryz.underlying22 info3T rfl (by decide) (by decide) (.slice Ar o.length co) o.length (o.map (O Y)) _ rfl rfl rfl (by simp [Value.oneCell']) hR2.out hB2.out (NR _) (by omega) ?_; rintro A1 c1' w6 hrow6 hb6 - hg6) | fail)
              exact ⟨⟨k + 1, _, _, hd.out, by go_num, rfl, by simpa using hrow6, by simp; omega, heq.out, hb6⟩, by have := hd.out; simp [intOf]; omega⟩
            · rw [hlo] at hLp; rw [if_neg (fun h => by rw [hlo] at h; exact absurd h.2.2 (by decide))] at heq; clear hlo; replace hz := ZZ hz; have hE3 := ZZ (show locksE l = 11 by rw [hE.out, heq]); have hO3 := ZZ (show locksO l = [] by rw [hO.out, heq]; rfl); clear heq; go_wp2_with fail; refine st 20 (S := fun w' => w'.cell? ⟨wr.heap.size, 1, none⟩ = some (O Y (q : Int)) ∧ w'.cell? ⟨ge, k, none⟩ = some (O Y (E : Int))) (ds := [16]) ⟨y1, ts⟩ (fun hHeld => ?_); generalize W1.drew = u0 at *; refine pq 0 ?_; refine pq 1 ?_; refine pq 2 ?_; refine pq 3 ?_; refine pq 4 ?_; refine pq 5 ?_; refine pq 7 ?_; refine tk 6 hHeld ?_; refine tk 8 hHeld ?_; refine pq 9 ?_; refine pq 10 ?_; refine pq 11 ?_; refine pq 12 ?_; refine pq 13 ?_; refine pq 14 ?_; refine pq 15 ?_; refine rg2 16 (fun K hK => ?_); refine goes_ Tryz.func105 (by kernel_rfl) rfl #[_, _, _] (by rfl) rfl rfl (by (try simp only [MA, List.map_cons, List.map_nil]); first | done | rfl) ?_; refine (hLp.out).mono ?_; rintro e w9 ⟨rfl, hw9⟩; refine ⟨_, rfl, ?_⟩; rw [hw9]; refine hK.out _ _ ?_; clear hK K; refine nm ?_; refine pq 17 ?_; refine pq 18 ?_; refine pq 19 ?_; refine dn ?_; clear y0 y1 ts hLp; go_wp2_with (first | (at_builtin; refine wpList_append_one w3 u0 w3.heap.size rfl (.tmp 59) (.tmp 62) 22 3 _ 1 8 rfl Tryz.underlying22 info3T rfl (by decide) (by decide) (.slice Ar o.length co) o.length (o.map (O Y)) _ rfl rfl rfl (by simp [Value.oneCell']) hR2.out hB2.out (NR _) (by omega) ?_; rintro A1 c1' w6 hrow6 hb6 - hg6) | fail)
              refine bodyPost_ret (results_tmp2 rfl _ _ _) rfl ?_; exact ⟨_, by rw [hE3.out]; rfl, by rw [hO3.out]; exact IntsAt.nil _, hb3'.out.trans (hb6.mono hb3'.out.size)⟩
          · have z1 : ((E : Int) / 2 ^ q == 0) = false := beq_eq_false_iff_ne.mpr hz; rw [if_neg (fun h => hz h.2.1)] at heq; replace hz := ZZ hz; have hE3 := ZZ (show locksE l = 11 by rw [hE.out, heq]); have hO3 := ZZ (show locksO l = [] by rw [hO.out, heq]; rfl); clear heq; go_wp2_with fail; refine st 20 (S := fun w' => w'.cell? ⟨wr.heap.size, 1, none⟩ = some (O Y (q : Int)) ∧ w'.cell? ⟨ge, k, none⟩ = some (O Y (E : Int))) (ds := [16]) ⟨y1, ts⟩ (fun hHeld => ?_); generalize W1.drew = u0 at *; refine pq 0 ?_; refine pq 1 ?_; refine pq 2 ?_; refine pq 3 ?_; refine pq 4 ?_; refine pq 5 ?_; refine pq 7 ?_; refine tk 6 hHeld ?_; refine tk 8 hHeld ?_; refine pq 9 ?_; refine pq 10 ?_; refine pq 11 ?_; refine pq 12 ?_; refine po 13 ?_; refine po 14 ?_; refine po 15 ?_; refine rg2 16 (fun K hK => ?_); refine off_ (by rfl) ?_; refine hK.out _ _ ?_; clear hK K; refine nm ?_; refine po 17 ?_; refine pq 18 ?_; refine pq 19 ?_; refine dn ?_; clear y0 y1 ts hLp; go_wp2_with (first | (at_builtin; refine wpList_append_one w3 u0 w3.heap.size rfl (.tmp 59) (.tmp 62) 22 3 _ 1 8 rfl Tryz.underlying22 info3T rfl (by decide) (by decide) (.slice Ar o.length co) o.length (o.map (O Y)) _ rfl rfl rfl (by simp [Value.oneCell']) hR2.out hB2.out (NR _) (by omega) ?_; rintro A1 c1' w6 hrow6 hb6 - hg6) | fail)
            refine bodyPost_ret (results_tmp2 rfl _ _ _) rfl ?_; exact ⟨_, by rw [hE3.out]; rfl, by rw [hO3.out]; exact IntsAt.nil _, hb3'.out.trans (hb6.mono hb3'.out.size)⟩
        · rw [if_neg (fun h => by cases h.1)] at heq; have hE3 := ZZ (show locksE l = 11 by rw [hE.out, heq]); have hO3 := ZZ (show locksO l = [] by rw [hO.out, heq]; rfl); clear heq; go_wp2_with fail; refine st 20 (S := fun w' => w'.cell? ⟨wr.heap.size, 1, none⟩ = some (O Y (q : Int)) ∧ w'.cell? ⟨ge, k, none⟩ = some (O Y (E : Int))) (ds := [16]) ⟨y1, ts⟩ (fun hHeld => ?_); generalize W1.drew = u0 at *; refine pq 0 ?_; refine pq 1 ?_; refine pq 2 ?_; refine po 3 ?_; refine po 4 ?_; refine po 5 ?_; refine po 7 ?_; refine po 6 ?_; refine po 8 ?_; refine po 9 ?_; refine po 10 ?_; refine pq 11 ?_; refine pq 12 ?_; refine po 13 ?_; refine po 14 ?_; refine po 15 ?_; refine rg2 16 (fun K hK => ?_); refine off_ (by rfl) ?_; refine hK.out _ _ ?_; clear hK K; refine nm ?_; refine po 17 ?_; refine pq 18 ?_; refine pq 19 ?_; refine dn ?_; clear y0 y1 ts hLp; go_wp2_with (first | (at_builtin; refine wpList_append_one w3 u0 w3.heap.size rfl (.tmp 59) (.tmp 62) 22 3 _ 1 8 rfl Tryz.underlying22 info3T rfl (by decide) (by decide) (.slice Ar o.length co) o.length (o.map (O Y)) _ rfl rfl rfl (by simp [Value.oneCell']) hR2.out hB2.out (NR _) (by omega) ?_; rintro A1 c1' w6 hrow6 hb6 - hg6) | fail)
          refine bodyPost_ret (results_tmp2 rfl _ _ _) rfl ?_; exact ⟨_, by rw [hE3.out]; rfl, by rw [hO3.out]; exact IntsAt.nil _, hb3'.out.trans (hb6.mono hb3'.out.size)⟩
      · rw [if_neg h23] at heq; have f1 : (x.o == 23) = false := beq_eq_false_iff_ne.mpr h23; by_cases h24 : x.o = 24
        · rw [if_pos h24] at heq; have f2 : (x.o == 24) = true := beq_iff_eq.mpr h24; replace heq := ZZ heq; replace h23 := ZZ h23; replace h24 := ZZ h24; clear hok hLp; go_wp2_with fail; exact ⟨⟨k + 1, _, _, hd.out, by go_num, rfl, hR1.out, by omega, heq.out, hB1.out⟩, by have := hd.out; simp [intOf]; omega⟩
        · rw [if_neg h24] at heq; have f2 : (x.o == 24) = false := beq_eq_false_iff_ne.mpr h24; by_cases h17 : x.o = 17
          · have f3 : (x.o == 17) = true := beq_iff_eq.mpr h17; have hab := lock_bd hok (.inr (.inr (.inl h17))); rw [if_pos (.inl h17)] at heq; replace h17 := ZZ h17; obtain ⟨q, hq⟩ : ∃ q : Nat, x.a = (q : Int) := ⟨x.a.toNat, by omega⟩
            rw [hq] at heq y1 hab; rw [Int.toNat_natCast] at heq; rw [hq] at hW1 c1; clear hq hok hLp; replace h23 := ZZ h23; replace h24 := ZZ h24; have q1 : (q : Int) ≤ 64 := by omega
            have hR2 := ZZ (LRow.step hR1.out (BR _ _).drew); have hB2 := ZZ hB1.out.drew; have q2 : (0 : Int) ≤ (q : Int) := by omega
            have q3 : (q : Int) < 64 := by omega
            cases hz : (bits .and .i64 ((E : Int) / 2 ^ q) 1 == 1)
            · rw [if_neg (by rw [beq_eq_false_iff_ne] at hz; exact hz)] at heq; have hE3 := ZZ (show locksE l = 11 by rw [hE.out, heq]); have hO3 := ZZ (show locksO l = [] by rw [hO.out, heq]; rfl); clear heq; go_wp2_with fail; refine st 10 (S := fun w' => w'.cell? ⟨wr.heap.size, 1, none⟩ = some (O Y (q : Int)) ∧ w'.cell? ⟨ge, k, none⟩ = some (O Y (E : Int))) (ds := []) ⟨y1, ts⟩ (fun hHeld => ?_); generalize W1.drew = u0 at *; refine pq 0 ?_; refine pq 1 ?_; refine pq 2 ?_; refine pq 4 ?_; refine tk 3 hHeld ?_; refine tk 5 hHeld ?_; refine pq 6 ?_; refine pq 7 ?_; refine pq 8 ?_; refine pq 9 ?_; refine dn ?_; clear y0 y1 ts; go_wp2_with fail; refine bodyPost_ret (results_tmp2 rfl _ _ _) rfl ?_; exact ⟨_, by rw [hE3.out]; rfl, by rw [hO3.out]; exact IntsAt.nil _, hb3'.out.trans (hB2.out.mono hb3'.out.size)⟩
            · rw [if_pos (by rw [beq_iff_eq] at hz; exact hz)] at heq; replace heq := ZZ heq; go_wp2_with fail; refine st 10 (S := fun w' => w'.cell? ⟨wr.heap.size, 1, none⟩ = some (O Y (q : Int)) ∧ w'.cell? ⟨ge, k, none⟩ = some (O Y (E : Int))) (ds := []) ⟨y1, ts⟩ (fun hHeld => ?_); generalize W1.drew = u0 at *; refine pq 0 ?_; refine pq 1 ?_; refine pq 2 ?_; refine pq 4 ?_; refine tk 3 hHeld ?_; refine tk 5 hHeld ?_; refine pq 6 ?_; refine pq 7 ?_; refine pq 8 ?_; refine pq 9 ?_; refine dn ?_; clear y0 y1 ts; go_wp2_with fail; exact ⟨⟨k + 1, _, _, hd.out, by go_num, rfl, hR2.out, by omega, heq.out, hB2.out⟩, by have := hd.out; simp [intOf]; omega⟩
          · have f3 : (x.o == 17) = false := beq_eq_false_iff_ne.mpr h17; by_cases h18 : x.o = 18
            · have f4 : (x.o == 18) = true := beq_iff_eq.mpr h18; have hab := lock_bd hok (.inr (.inr (.inr h18))); rw [if_pos (.inr h18)] at heq; replace h17 := ZZ h17; replace h18 := ZZ h18; obtain ⟨q, hq⟩ : ∃ q : Nat, x.a = (q : Int) := ⟨x.a.toNat, by omega⟩
              rw [hq] at heq y1 hab; rw [Int.toNat_natCast] at heq; rw [hq] at hW1 c1; clear hq hok hLp; replace h23 := ZZ h23; replace h24 := ZZ h24; have q1 : (q : Int) ≤ 64 := by omega
              have hR2 := ZZ (LRow.step hR1.out (BR _ _).drew); have hB2 := ZZ hB1.out.drew; have q2 : (0 : Int) ≤ (q : Int) := by omega
              have q3 : (q : Int) < 64 := by omega
              cases hz : (bits .and .i64 ((E : Int) / 2 ^ q) 1 == 1)
              · rw [if_neg (by rw [beq_eq_false_iff_ne] at hz; exact hz)] at heq; have hE3 := ZZ (show locksE l = 11 by rw [hE.out, heq]); have hO3 := ZZ (show locksO l = [] by rw [hO.out, heq]; rfl); clear heq; go_wp2_with fail; refine st 10 (S := fun w' => w'.cell? ⟨wr.heap.size, 1, none⟩ = some (O Y (q : Int)) ∧ w'.cell? ⟨ge, k, none⟩ = some (O Y (E : Int))) (ds := []) ⟨y1, ts⟩ (fun hHeld => ?_); generalize W1.drew = u0 at *; refine pq 0 ?_; refine pq 1 ?_; refine pq 2 ?_; refine pq 4 ?_; refine tk 3 hHeld ?_; refine tk 5 hHeld ?_; refine pq 6 ?_; refine pq 7 ?_; refine pq 8 ?_; refine pq 9 ?_; refine dn ?_; clear y0 y1 ts; go_wp2_with fail; refine bodyPost_ret (results_tmp2 rfl _ _ _) rfl ?_; exact ⟨_, by rw [hE3.out]; rfl, by rw [hO3.out]; exact IntsAt.nil _, hb3'.out.trans (hB2.out.mono hb3'.out.size)⟩
              · rw [if_pos (by rw [beq_iff_eq] at hz; exact hz)] at heq; replace heq := ZZ heq; go_wp2_with fail; refine st 10 (S := fun w' => w'.cell? ⟨wr.heap.size, 1, none⟩ = some (O Y (q : Int)) ∧ w'.cell? ⟨ge, k, none⟩ = some (O Y (E : Int))) (ds := []) ⟨y1, ts⟩ (fun hHeld => ?_); generalize W1.drew = u0 at *; refine pq 0 ?_; refine pq 1 ?_; refine pq 2 ?_; refine pq 4 ?_; refine tk 3 hHeld ?_; refine tk 5 hHeld ?_; refine pq 6 ?_; refine pq 7 ?_; refine pq 8 ?_; refine pq 9 ?_; refine dn ?_; clear y0 y1 ts; go_wp2_with fail; exact ⟨⟨k + 1, _, _, hd.out, by go_num, rfl, hR2.out, by omega, heq.out, hB2.out⟩, by have := hd.out; simp [intOf]; omega⟩
            · have f4 : (x.o == 18) = false := beq_eq_false_iff_ne.mpr h18; rw [if_neg (by omega)] at heq; replace heq := ZZ heq; replace h23 := ZZ h23; replace h24 := ZZ h24; replace h17 := ZZ h17; replace h18 := ZZ h18; clear hok hLp; go_wp2_with fail; exact ⟨⟨k + 1, _, _, hd.out, by go_num, rfl, hR1.out, by omega, heq.out, hB1.out⟩, by have := hd.out; simp [intOf]; omega⟩
    · have b1 : ¬ (((k : Nat) : Int) < (l.length : Int)) := by omega
      have hke : k = l.length := by omega
      subst hke; rw [List.drop_length, lockF] at heq; have hE3 := ZZ (show locksE l = 0 by rw [hE.out, heq]); have hO3 := ZZ (show locksO l = o by rw [hO.out, heq]; rfl); replace hR := ZZ hR; replace hB := ZZ hB; clear hk hd heq hH hA; go_wp2_with fail; refine bodyPost_ret (results_tmp2 rfl _ _ _) rfl ?_; exact ⟨_, by rw [hE3.out]; rfl, by rw [hO3.out]; exact LRow.rowAt (by simpa using hR.out) (by omega), hb3'.out.trans (hB.out.mono hb3'.out.size)⟩
 · have hE := ZZ (show locksE l = wholeP l from if_neg hw0); have hO := ZZ (show locksO l = [] from if_neg hw0); generalize wholeP l = we at *; have f1 : (we != 0) = true := bne_iff_ne.mpr hw0; replace hw0 := ZZ hw0; go_enter Tryz.func58, Tryz.ntmps58; go_wp2_with fail; refine hW.out.mono ?_; rintro e w1 ⟨rfl, hb1⟩; replace hb1 := ZZ hb1; go_wp2_with fail; refine bodyPost_ret (results_tmp2 rfl _ _ _) rfl ?_; exact ⟨_, by rw [hE.out]; rfl, by rw [hO.out]; exact IntsAt.nil _, hb1.out⟩
end Go.Proofs.YtoopeamoejmjeaaGreat.Tp
namespace Go.Proofs.YtoopeamoejmjeaaGreat.Tp
open RowKit YtoopeamoejmjeaaGreatW.PrintLast
section
def upd (L : Nat → Bool) (i : Nat) : Nat → Bool := fun j => if j = i then true else L j
theorem upd_self (L : Nat → Bool) (i : Nat) : upd L i i = true := by simp [upd]
theorem upd_of {L : Nat → Bool} {i j : Nat} (h : L j = true) : upd L i j = true := by unfold upd; split <;> simp [h]
theorem upd_ne (L : Nat → Bool) {i j : Nat} (h : j ≠ i) : upd L i j = L j := by simp [upd, h]
theorem countP_lt {α : Type} {p q : α → Bool} : ∀ (l : List α), (∀ x ∈ l, q x = true → p x = true) → ∀ x ∈ l, p x = true → q x = false → l.countP q < l.countP p := by
 intro l; induction l with
 | nil => intro _ x hx; cases hx
 | cons y r ih =>
  intro h x hx hp hq; have hle : r.countP q ≤ r.countP p := List.countP_mono_left (fun z hz hqz => h z (List.mem_cons_of_mem _ hz) hqz); rcases List.mem_cons.1 hx with rfl | hx
  · rw [List.countP_cons_of_neg (by simp [hq]), List.countP_cons_of_pos hp]; omega
  · have := ih (fun z hz => h z (List.mem_cons_of_mem _ hz)) x hx hp hq; rw [List.countP_cons, List.countP_cons]; have hy := h y (List.mem_cons_self ..); by_cases e1 : q y = true
    · rw [if_pos e1, if_pos (hy e1)]; omega
    · rw [if_neg e1]; split <;> omega
section
variable {P : Program} {ops : Array Oper} {Q : Exit → Act → World → Prop}
structure Inv (ops : Array Oper) (T0 : Act) (R : Nat → Value → World → Prop) (J : (Nat → Bool) → (Nat → Value) → World → Prop) (L : Nat → Bool) (a : Act) (w : World) : Prop where
 df : a.defers = T0.defers
 sz : a.tmps.size = T0.tmps.size
 fix : ∀ d, ops.all (fun o => !(o.dst == some d)) = true → a.tmps.getD d undef = T0.tmps.getD d undef
 val : ∀ (i : Nat) (oi : Oper) (d : Tmp), ops[i]? = some oi → oi.dst = some d → L i = true → R i (a.tmps.getD d undef) w
 inv : J L (fun e => a.tmps.getD e undef) w
def Out (P : Program) (R : Nat → Value → World → Prop) (J : (Nat → Bool) → (Nat → Value) → World → Prop) (G : World → World → Prop) (i : Nat) (oi : Oper) (L : Nat → Bool) (a : Act) (w : World) : Prop :=
 (∃ v w', (execOp a.eval oi).run P w = .ok (.value v) w' ∧ R i v w' ∧ J (upd L i) (fun e => if oi.dst = some e then v else a.tmps.getD e undef) w' ∧ G w w') ∨
 (∃ w', (execOp a.eval oi).run P w = .ok .skip w' ∧ oi.dst = none ∧ J (upd L i) (fun e => a.tmps.getD e undef) w' ∧ G w w') ∨
 (∃ f args, (execOp a.eval oi).run P w = .ok (.enter f args) w ∧ Calls P f args w fun e w' => ∃ v, e = .returned v ∧ R i v w' ∧ J (upd L i) (fun e => if oi.dst = some e then v else a.tmps.getD e undef) w' ∧ G w w')
def StepOk (P : Program) (ops : Array Oper) (T0 : Act) (R : Nat → Value → World → Prop) (J : (Nat → Bool) → (Nat → Value) → World → Prop) (G : World → World → Prop) (i : Nat) (oi : Oper) : Prop :=
 ∀ L a w, Inv ops T0 R J L a w → L i = false → (∀ e ∈ oi.after, Region.binds .any e = true → L e.on = true) → Out P R J G i oi L a w
def StepsFrom (P : Program) (ops : Array Oper) (T0 : Act) (R : Nat → Value → World → Prop) (J : (Nat → Bool) → (Nat → Value) → World → Prop) (G : World → World → Prop) : Nat → List Oper → Prop
 | _, [] => True
 | k, o :: r => StepOk P ops T0 R J G k o ∧ StepsFrom P ops T0 R J G (k + 1) r
theorem StepsFrom.at {T0 : Act} {R : Nat → Value → World → Prop} {J : (Nat → Bool) → (Nat → Value) → World → Prop} {G : World → World → Prop} : ∀ (l : List Oper) (k : Nat), StepsFrom P ops T0 R J G k l → ∀ i oi, l[i]? = some oi → StepOk P ops T0 R J G (k + i) oi := by
 intro l; induction l with
 | nil => intro k _ i oi h; simp at h
 | cons o r ih =>
  intro k h i oi hi; cases i with
  | zero => rw [List.getElem?_cons_zero] at hi; injection hi with hi; subst hi; exact h.1
  | succ i => rw [List.getElem?_cons_succ] at hi; rw [show k + (i + 1) = k + 1 + i by omega]; exact ih (k + 1) h.2 i oi hi
def invB (ops : Array Oper) (n : Nat) : Bool := (List.range ops.size).all fun i => match ops[i]? with
 | some o => o.guard.isNone && o.after.all (fun e => !Region.binds .any e || decide (e.on < i)) && (match o.dst with
  | some d => decide (d < n) && (List.range i).all (fun j => !((ops[j]?.bind (·.dst)) == some d))
  | none => true)
 | none => true
theorem invB_at {n i : Nat} {oi : Oper} (h : invB ops n = true) (hi : ops[i]? = some oi) : oi.guard = none ∧ (∀ e ∈ oi.after, Region.binds .any e = true → e.on < i) ∧ ∀ d, oi.dst = some d → d < n ∧ ∀ j oj, j < i → ops[j]? = some oj → oj.dst ≠ some d := by
 have hlt : i < ops.size := (ltA hi); have h1 := List.all_eq_true.1 h i (List.mem_range.2 hlt); rw [hi] at h1; simp only [Bool.and_eq_true] at h1; obtain ⟨⟨h1, h2⟩, h3⟩ := h1; refine ⟨by simpa using h1, fun e he hb => ?_, fun d hd => ?_⟩
 · have := Array.all_eq_true_iff_forall_mem.1 h2 e he; simpa [hb] using this
 · rw [hd] at h3; simp only [Bool.and_eq_true, decide_eq_true_eq] at h3; refine ⟨h3.1, fun j oj hj ho hdj => ?_⟩; have := List.all_eq_true.1 h3.2 j (List.mem_range.2 hj); rw [ho] at this; simp [hdj] at this
theorem invB_ne {n i j : Nat} {oi oj : Oper} {d : Tmp} (h : invB ops n = true) (hi : ops[i]? = some oi) (hj : ops[j]? = some oj) (hd : oi.dst = some d) (hdj : oj.dst = some d) : i = j := by
 rcases Nat.lt_trichotomy i j with hlt | rfl | hlt
 · exact absurd hd (((invB_at h hj).2.2 d hdj).2 i oi hlt hi)
 · rfl
 · exact absurd hdj (((invB_at h hi).2.2 d hd).2 j oj hlt hj)
theorem put_getD (a : Act) (d : Tmp) (v : Value) (e : Nat) (hd : d < a.tmps.size) : (a.put (some d) v).tmps.getD e undef = if e = d then v else a.tmps.getD e undef := by
 show (a.tmps.setIfInBounds d v).getD e undef = _; rw [Array.getD_eq_getD_getElem?, Array.getD_eq_getD_getElem?, Array.getElem?_setIfInBounds]; by_cases h : d = e
 · subst h; simp [hd]
 · rw [if_neg h, if_neg (fun e2 => h e2.symm)]
theorem Inv.put {T0 : Act} {R : Nat → Value → World → Prop} {J : (Nat → Bool) → (Nat → Value) → World → Prop} {G : World → World → Prop} {L : Nat → Bool} {a : Act} {w w' : World} {i : Nat} {oi : Oper} {v : Value}
 (h : Inv ops T0 R J L a w) (chk : invB ops T0.tmps.size = true) (hR : ∀ i v w w', G w w' → R i v w → R i v w') (hi : ops[i]? = some oi) (r1 : R i v w') (r2 : J (upd L i) (fun e => if oi.dst = some e then v else a.tmps.getD e undef) w') (g : G w w') : Inv ops T0 R J (upd L i) (a.put oi.dst v) w' := by
 cases hd : oi.dst with
 | none =>
  rw [hd] at r2; refine ⟨h.df, h.sz, h.fix, fun j oj d hj hdj hl => ?_, ?_⟩
  · have hne : j ≠ i := fun e => by subst e; rw [hi] at hj; injection hj with hj; subst hj; rw [hd] at hdj; cases hdj
    rw [upd_ne L hne] at hl; exact hR _ _ _ _ g (h.val j oj d hj hdj hl)
  · have e : (fun e => if (none : Option Tmp) = some e then v else a.tmps.getD e undef) = fun e => a.tmps.getD e undef := by funext e; rw [if_neg (by simp)]
    rw [e] at r2; exact r2
 | some d =>
  have hlt : d < a.tmps.size := by rw [h.sz]; exact ((invB_at chk hi).2.2 d hd).1
  refine ⟨h.df, by show (a.tmps.setIfInBounds d v).size = _; rw [Array.size_setIfInBounds, h.sz], fun e he => ?_, fun j oj e hj hdj hl => ?_, ?_⟩
  · rw [put_getD a d v e hlt, if_neg (fun e2 => ?_)]
    · exact h.fix e he
    · have := Array.all_eq_true_iff_forall_mem.1 he oi (AM hi); rw [hd, e2] at this; simp at this
  · rw [put_getD a d v e hlt]; by_cases hij : j = i
    · subst hij; rw [hi] at hj; injection hj with hj
      subst hj; rw [hd] at hdj; injection hdj with hdj
      rw [if_pos hdj.symm]; exact r1
    · rw [upd_ne L hij] at hl; rw [if_neg (fun e2 => by subst e2; exact hij (invB_ne chk hj hi hdj hd))]; exact hR _ _ _ _ g (h.val j oj e hj hdj hl)
  · have e : (fun e => (a.put (some d) v).tmps.getD e undef) = fun e => if oi.dst = some e then v else a.tmps.getD e undef := by
     funext e; rw [put_getD a d v e hlt, hd]; by_cases h : e = d
     · rw [if_pos h, if_pos (by rw [h])]
     · rw [if_neg h, if_neg (fun e2 => by injection e2 with e2; exact h e2.symm)]
    rw [e]; exact r2
theorem getD_bounds {l : Array Bool} {j : Nat} (h : j < l.size) (a b : Bool) : l.getD j a = l.getD j b := by simp [Array.getD, h]
theorem ready_all {listed : Array Bool} (hs : listed.size = ops.size) {n : Nat} (chk : invB ops n = true) (hr : Region.ready .any ops listed = []) : ∀ i, i < ops.size → listed.getD i false = true := by
 intro i; induction i using Nat.strongRecOn with
 | ind i ih =>
  intro hi; cases hc : listed.getD i false with
  | true => rfl
  | false =>
   have : i ∈ Region.ready .any ops listed := mem_ready.2 ⟨by rw [getD_bounds (by omega) true false]; exact hc, ops[i], Array.getElem?_eq_getElem hi, fun e he hb => by
    have := (invB_at chk (Array.getElem?_eq_getElem hi)).2.1 e he hb; exact ih e.on this (by omega)⟩
   rw [hr] at this; cases this
theorem wpAny_inv {T0 : Act} {R : Nat → Value → World → Prop} {J : (Nat → Bool) → (Nat → Value) → World → Prop} {G : World → World → Prop}
 (chk : invB ops T0.tmps.size = true) (hR : ∀ i v w w', G w w' → R i v w → R i v w') (hst : ∀ i oi, ops[i]? = some oi → StepOk P ops T0 R J G i oi)
 (hend : ∀ L a w, Inv ops T0 R J L a w → (∀ i, i < ops.size → L i = true) → Q .normal a w) : ∀ (fuel : Nat) (listed : Array Bool) (a : Act) (w : World), listed.size = ops.size → Inv ops T0 R J (fun j => listed.getD j false) a w → (List.range ops.size).countP (fun j => !listed.getD j false) ≤ fuel → wpAny P .any ops Q fuel listed a w := by
 intro fuel; induction fuel with
 | zero =>
  intro listed a w hs h hc; have hall : ∀ i, i < ops.size → listed.getD i false = true := fun i hi => by
   cases e : listed.getD i false with
   | true => rfl
   | false =>
    have := List.countP_pos_iff (p := fun j => !listed.getD j false) |>.2 ⟨i, List.mem_range.2 hi, (by simp only [e]; rfl)⟩
    omega
  refine ⟨?_, hend _ a w h hall⟩; cases hr : Region.ready .any ops listed with
  | nil => rfl
  | cons x xs =>
   have hx : x ∈ Region.ready .any ops listed := by rw [hr]; simp
   obtain ⟨h1, o, h2, _⟩ := mem_ready.1 hx; have hlt : x < ops.size := (ltA h2); rw [getD_bounds (by omega) true false, hall x hlt] at h1; cases h1
 | succ fuel ih =>
  intro listed a w hs h hc; refine ⟨fun hr => hend _ a w h (ready_all hs chk hr), fun i hi => ?_⟩; obtain ⟨h1, oi, h2, h3⟩ := mem_ready.1 hi; have hlt : i < ops.size := (ltA h2); rw [getD_bounds (by omega) true false] at h1; have hg := (invB_at chk h2).1; have hset : (fun j => (listed.setIfInBounds i true).getD j false) = upd (fun j => listed.getD j false) i := by
   funext j; unfold upd; by_cases e : j = i
   · subst e; rw [if_pos rfl]; simp [Array.getD, hs, hlt]
   · rw [if_neg e, getD_set_ne false (fun e2 => e e2.symm)]
  have hnext : ∀ a' w', Inv ops T0 R J (upd (fun j => listed.getD j false) i) a' w' → wpAny P .any ops Q fuel (listed.setIfInBounds i true) a' w' := fun a' w' h' => by
   refine ih _ a' w' (by simp [hs]) (by rw [hset]; exact h') ?_; have := countP_lt (p := fun j => !listed.getD j false) (q := fun j => !(listed.setIfInBounds i true).getD j false) (List.range ops.size) (fun x _ hq => by
    have e := congrFun hset x; have hq' : (!(listed.setIfInBounds i true).getD x false) = true := hq; rw [show (listed.setIfInBounds i true).getD x false = upd (fun j => listed.getD j false) i x from e] at hq'; show (!listed.getD x false) = true; cases hx : listed.getD x false with
    | false => rfl
    | true => rw [upd_of (L := fun j => listed.getD j false) hx] at hq'; cases hq') i (List.mem_range.2 hlt) (by simp [h1]) (by
    have e := congrFun hset i; show (!(listed.setIfInBounds i true).getD i false) = false; rw [show (listed.setIfInBounds i true).getD i false = upd (fun j => listed.getD j false) i i from e, upd_self]; rfl)
   omega
  refine wpOp_step h2 (fun K hK => ?_); have hw : Region.wanted oi (yielded ops a.tmps) = true := by unfold Region.wanted; rw [hg]
  rw [if_pos hw]; unfold Oper.wp; rcases hst i oi h2 _ a w h h1 h3 with ⟨v, w', e, r1, r2, g⟩ | ⟨w', e, e2, r2, g⟩ | ⟨f, args, e, hcall⟩
  · rw [e]; exact hK _ _ (hnext _ _ (h.put chk hR h2 r1 r2 g))
  · rw [e]; show K (a.put oi.dst undef) w'; rw [e2]; refine hK _ _ (hnext _ _ ?_); refine ⟨h.df, h.sz, h.fix, fun j oj d hj hdj hl => ?_, r2⟩; have hne : j ≠ i := fun e => by subst e; rw [h2] at hj; injection hj with hj; subst hj; rw [e2] at hdj; cases hdj
    rw [upd_ne _ hne] at hl; exact hR _ _ _ _ g (h.val j oj d hj hdj hl)
  · rw [e, Oper.upon_enter]; refine hcall.mono ?_; rintro e2 w' ⟨v, rfl, r1, r2, g⟩; exact hK _ _ (hnext _ _ (h.put chk hR h2 r1 r2 g))
theorem wp_region_inv {id : Nat} {a : Act} {w : World} (R : Nat → Value → World → Prop) (J : (Nat → Bool) → (Nat → Value) → World → Prop) (G : World → World → Prop) (hm : P.follows .mixedOrders = true)
 (chk : invB ops a.tmps.size = true) (hR : ∀ i v w w', G w w' → R i v w → R i v w') (h0 : J (fun _ => false) (fun e => a.tmps.getD e undef) w.drew) (hst : StepsFrom P ops a R J G 0 ops.toList)
 (hend : ∀ L a' w', Inv ops a R J L a' w' → (∀ i, i < ops.size → L i = true) → Q .normal a' w') : (Code.region id ops true).wp P Q a w := by
 refine wp_region_any hm (wpAny_inv chk hR (fun i oi hi => ?_) hend ops.size _ a w.drew (by simp) ⟨rfl, rfl, fun _ _ => rfl, fun i oi d _ _ hl => ?_, ?_⟩ ?_)
 · have := StepsFrom.at ops.toList 0 hst i oi (by simpa using hi); rwa [Nat.zero_add] at this
 · have hlt : (Array.replicate ops.size false).getD i false = false := by simp [Array.getD]
   rw [hlt] at hl; cases hl
 · have : (fun j => (Array.replicate ops.size false).getD j false) = fun _ => false := by funext j; simp [Array.getD]
   rw [this]; exact h0
 · exact Nat.le_trans (List.countP_le_length) (by simp)
end
end
end Go.Proofs.YtoopeamoejmjeaaGreat.Tp
namespace Go.Proofs.YtoopeamoejmjeaaGreat.Tp
open RowKit MapKept Tm
open Go.ChangeMaps (setBlock modify_eq_set)
open Go.Maps (Keyed int_keyed keyOf_int_mk)
section
def In64 (x : Int) : Prop := -9223372036854775808 ≤ x ∧ x ≤ 9223372036854775807
theorem wf64 {x : Int} (h : In64 x) : (Lit.int .i64 x).wf = true := by
 simp only [Lit.wf, Bool.and_eq_true, decide_eq_true_eq]; have e0 : IntKind.i64.min = -9223372036854775808 := by decide
 have e1 : IntKind.i64.max = 9223372036854775807 := by decide
 unfold In64 at h; omega
theorem law3 : Keyed Tryz.prog 3 := int_keyed Tryz.underlying3
def kvI (x : Int × Value) : Value × Value := (.int .i64 x.1, x.2)
theorem keyI_is {x : Int} (h : In64 x) : keyOf Tryz.prog 3 (.int .i64 x) = some (.int .i64 x) := keyOf_int_mk Tryz.underlying3 (wf64 h)
def MapI (W : World) (m : Nat) (ws : List (Int × Value)) : Prop := ∃ es clock, W.heap[m]? = some (.map es clock) ∧ Stamped es clock ∧ (es.toList.map fun e => (e.key, e.val)).Perm (ws.map kvI) ∧ ∀ x ∈ ws, In64 x.1
theorem MapI.move {W W' : World} {m : Nat} {ws : List (Int × Value)} (h : MapI W m ws) (hm : W'.heap[m]? = W.heap[m]?) : MapI W' m ws := by
 obtain ⟨es, clock, h1, h2⟩ := h; exact ⟨es, clock, hm.trans h1, h2⟩
theorem MapI.lt {W : World} {m : Nat} {ws : List (Int × Value)} (h : MapI W m ws) : m < W.heap.size := by
 obtain ⟨es, clock, h1, _⟩ := h; exact (ltA h1)
theorem MapI.made (W : World) : MapI (W.alloc (.map #[] 0)) W.heap.size [] := ⟨#[], 0, (MapKept.heap_alloc W _).1, stamped_empty 0, by simp, by simp⟩
theorem keysI {ws : List (Int × Value)} {es : Array MapEntry} (hp : (es.toList.map fun e => (e.key, e.val)).Perm (ws.map kvI)) (hr : ∀ x ∈ ws, In64 x.1) : ∀ e ∈ es.toList, ∃ l, keyOf Tryz.prog 3 e.key = some l := by
 intro e he; have h1 : (e.key, e.val) ∈ ws.map kvI := hp.mem_iff.1 (List.mem_map.2 ⟨e, he, rfl⟩); obtain ⟨x, hx, hxe⟩ := List.mem_map.1 h1; rw [show e.key = .int .i64 x.1 from (congrArg Prod.fst hxe).symm]; exact ⟨_, keyI_is (hr x hx)⟩
section
variable {W : World} {m : Nat} {ws : List (Int × Value)} {t E : TypeId}
theorem MapI.store (ht : Tryz.prog.underlying t = some (.map 3 E)) (h : MapI W m ws) (hl : ws.length < maxLen) (k : Int) (v : Value) (hk : In64 k) (hnew : ∀ x ∈ ws, x.1 ≠ k) :
 ∃ W', (Instr.mapUpdate t (.map (some m)) (.int .i64 k) v).run Tryz.prog W = .ok () W' ∧ MapI W' m ((k, v) :: ws) ∧ Keeps [m] W W' ∧ W'.heap.size = W.heap.size ∧ (∃ es clock, W'.heap[m]? = some (.map es clock)) := by
 obtain ⟨es, clock, hb, hst, hp, hr⟩ := h; have hkey := keyI_is hk; have hes := keysI hp hr; have hsz : es.size = ws.length := by have := hp.length_eq; simpa using this
 have hno : ∀ e ∈ es.toList, e.key ≠ .int .i64 k := by
  intro e he hek; have h1 : (e.key, e.val) ∈ ws.map kvI := hp.mem_iff.1 (List.mem_map.2 ⟨e, he, rfl⟩); obtain ⟨x, hx, hxe⟩ := List.mem_map.1 h1; have h2 : O Y x.1 = .int .i64 k := (congrArg Prod.fst hxe).trans hek; injection h2 with _ h2
  exact hnew x hx h2
 rcases law3.find W hkey es.toList hes with ⟨h1, h2⟩ | ⟨j, e0, h1, h2, h3⟩
 · refine ⟨setBlock W m (.map (es.push ⟨.int .i64 k, v, clock⟩) (clock + 1)), ?_, ⟨_, _, ChangeMaps.heap_setBlock_same hb _, stamped_push hst h2, ?_, ?_⟩, ⟨rfl, rfl, rfl, by simp [setBlock], fun i _ hi => ChangeMaps.heap_setBlock_other hb _ (fun e => hi (by simp [e]))⟩, by simp [setBlock], ⟨_, _, ChangeMaps.heap_setBlock_same hb _⟩⟩
   · simp [Instr.mapUpdate, run_underlying ht, MapKept.run_getObj_map hb, law3.check W false hkey, h1, MapKept.run_setObj_map _ hb, Result.andThen, setBlock]; try omega
   · simp only [Array.toList_push, List.map_append, List.map_cons, List.map_nil]; exact List.perm_append_singleton _ _ |>.trans (by simpa [kvI] using hp)
   · intro x hx; rcases List.mem_cons.1 hx with rfl | hx
     · exact hk
     · exact hr x hx
 · exact absurd h3 (hno e0 (LM h2))
theorem MapI.look (ht : Tryz.prog.underlying t = some (.map 3 E)) (h : MapI W m ws) (k : Int) (v : Value) (hx : (k, v) ∈ ws) (c : Bool) : (Instr.lookup t (.map (some m)) (.int .i64 k) c).run Tryz.prog W = .ok (if c then .tuple #[v, .bool true] else v) W := by
 obtain ⟨es, clock, hb, hst, hp, hr⟩ := h; have hkey := keyI_is (hr _ hx); have hes := keysI hp hr; have h1 : (O Y k, v) ∈ es.toList.map fun e => (e.key, e.val) := hp.mem_iff.2 (List.mem_map.2 ⟨_, hx, rfl⟩); obtain ⟨e, he, hee⟩ := List.mem_map.1 h1; simp only [Prod.mk.injEq] at hee; rcases law3.find W hkey es.toList hes with ⟨h1, h2⟩ | ⟨j, e0, h1, h2, h3⟩
 · exact absurd hee.1 (h2 e he)
 · have hm0 : e0 ∈ es.toList := LM h2; have hk := ((stamped_iff es clock).1 hst).2.2; have e1 : e0 = e := entry_eq_of_key hk hm0 he (h3.trans hee.1.symm); rw [e1, hee.2] at h1; cases c <;> simp [Instr.lookup, run_underlying ht, MapKept.run_getObj_map hb, law3.check W _ hkey, h1, Result.andThen]
theorem MapI.miss (ht : Tryz.prog.underlying t = some (.map 3 E)) (h : MapI W m ws) (k : Int) (hk : In64 k) (hno : ∀ x ∈ ws, x.1 ≠ k) (z : Value) (hz : (zeroValue E).run Tryz.prog W = .ok z W) (c : Bool) : (Instr.lookup t (.map (some m)) (.int .i64 k) c).run Tryz.prog W = .ok (if c then .tuple #[z, .bool false] else z) W := by
 obtain ⟨es, clock, hb, hst, hp, hr⟩ := h; have hkey := keyI_is hk; have hes := keysI hp hr; rcases law3.find W hkey es.toList hes with ⟨h1, h2⟩ | ⟨j, e0, h1, h2, h3⟩
 · cases c <;> simp [Instr.lookup, run_underlying ht, MapKept.run_getObj_map hb, law3.check W _ hkey, h1, hz, Result.andThen]
 · have h4 : (e0.key, e0.val) ∈ ws.map kvI := hp.mem_iff.1 (List.mem_map.2 ⟨e0, LM h2, rfl⟩); obtain ⟨x, hx, hxe⟩ := List.mem_map.1 h4; have h5 : O Y x.1 = .int .i64 k := (congrArg Prod.fst hxe).trans h3; exact absurd ((Value.int.inj h5).2) (hno x hx)
end
end
end Go.Proofs.YtoopeamoejmjeaaGreat.Tp
