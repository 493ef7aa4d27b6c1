/- Steps of the walk, merged and shortened by a program (fit.py). -/
import Derived.Laws.EntriesVeiled
import Derived.Lib.Hide
import Derived.Test.YtoopeamoejmjeaaGreatA01
import Derived.Test.YtoopeamoejmjeaaGreatA07
import Derived.Test.YtoopeamoejmjeaaGreatA08
import Derived.Test.YtoopeamoejmjeaaGreatWCut
set_option linter.unusedVariables false
set_option linter.unusedSimpArgs false
set_option maxRecDepth 100000
set_option maxHeartbeats 4000000
open Nat renaming le_refl → NR
open List renaming getElem?_eq_getElem → GE
open Go.RowKit.Below renaming refl → BR
open ByteArray renaming empty → BE
open List renaming getD_eq_getElem?_getD → GD
open Array renaming mem_of_getElem? → AM
open List renaming mem_of_getElem? → LM
open List renaming getElem?_eq_some_iff → GI
open List renaming map_toArray → MA
open Go.RowKit.Below renaming heap_setCell → BH
open Go.Lib renaming hid → ZZ
open Go.Value renaming int → O
open Go.IntKind renaming i64 → Y
namespace Go.Proofs.YtoopeamoejmjeaaGreat.Tp
open Tm
theorem getD_set {α : Type} (L : List α) (k p : Nat) (v d : α) (hk : k < L.length) : (L.set k v).getD p d = if p = k then v else L.getD p d := by
 rw [GD, GD, List.getElem?_set]; by_cases h : k = p
 · subst h; simp [hk]
 · rw [if_neg h, if_neg (fun e => h e.symm)]
structure ScW (l : List I3) (k : Nat) (s : ScanS) : Prop where
 lm : s.M.length = l.length
 lh : s.H.length = l.length
 lt : ∀ r ∈ s.S, r.1 < k
 srt : s.S.Pairwise (fun a b => a.1 < b.1)
 op : ∀ r ∈ s.S, ∃ x, l[r.1]? = some x ∧ (openI x).isSome = true
 hom : ∀ p, p < k → s.H.getD p 0 = -1 ∨ ∃ h : Nat, s.H.getD p 0 = (h : Int) ∧ h < p ∧ (∃ x, l[h]? = some x ∧ (openI x).isSome = true) ∧ ((∃ r ∈ s.S, r.1 = h) ∨ ∃ j : Nat, s.M.getD h 0 = (j : Int) ∧ p ≤ j)
 cl : ∀ i, i < k → ∀ x, l[i]? = some x → (openI x).isSome = true → (∃ r ∈ s.S, r.1 = i) ∨ ∃ j : Nat, i < j ∧ j < k ∧ s.M.getD i 0 = (j : Int) ∧ (∀ p, i < p → p ≤ j → ∃ h : Nat, s.H.getD p 0 = (h : Int) ∧ i ≤ h) ∧ (∀ p y, i < p → p < j → l[p]? = some y → (openI y).isSome = true → ∃ j' : Nat, j' < j ∧ s.M.getD p 0 = (j' : Int)) ∧ (∃ y, l[j]? = some y ∧ (y.o = 22 ∨ y.o = 24))
 nx : ∀ i, i < k → ∀ x, l[i]? = some x → x.o = 22 ∨ x.o = 24 → ∃ j : Nat, j < i ∧ s.M.getD i 0 = (j : Int)
 ins : ∀ r ∈ s.S, ∀ p, r.1 < p → p < k → ∃ h : Nat, s.H.getD p 0 = (h : Int) ∧ r.1 ≤ h
 mo : ∀ r ∈ s.S, s.M.getD r.1 0 = -1
theorem openI_22 {x : I3} (h : x.o = 22 ∨ x.o = 24) : openI x = none := by
 unfold openI; rw [if_neg (by omega), if_neg (by omega)]
theorem topA_of {S : List (Nat × I3)} (h : S ≠ []) : ∃ S1 r, S = S1 ++ [r] ∧ topA S = (r.1 : Int) := by
 obtain ⟨S1, r, e⟩ := snoc_of S h; exact ⟨S1, r, e, by rw [e]; exact topA_snoc S1 r⟩
theorem last_max {S1 : List (Nat × I3)} {r : Nat × I3} (h : (S1 ++ [r]).Pairwise (fun a b => a.1 < b.1)) : ∀ q ∈ S1, q.1 < r.1 := fun q hq => (List.pairwise_append.1 h).2.2 q hq r (by simp)
theorem ScW.ahead {l : List I3} {k : Nat} {s : ScanS} {x : I3} (h : ScW l k s) (hx : l[k]? = some x) (S' : List (Nat × I3)) (hS : S' = s.S ∨ ∃ e, S' = s.S ++ [(k, e)] ∧ (openI x).isSome = true) (hno : (openI x).isSome = true → S' ≠ s.S) (h22 : ¬ (x.o = 22 ∨ x.o = 24)) : ScW l (k + 1) ⟨s.M.set k (-1), s.H.set k (topA s.S), S'⟩ := by
 have hk : k < l.length := (GI.1 hx).1; have hkm : k < s.M.length := by rw [h.lm]; exact hk
 have hkh : k < s.H.length := by rw [h.lh]; exact hk
 have sub : ∀ r ∈ s.S, r ∈ S' := fun r hr => by
  rcases hS with e | ⟨e, e1, _⟩
  · rw [e]; exact hr
  · rw [e1]; exact List.mem_append_left _ hr
 have memS : ∀ r ∈ S', r ∈ s.S ∨ (r.1 = k ∧ (openI x).isSome = true) := fun r hr => by
  rcases hS with e | ⟨e, e1, e2⟩
  · rw [e] at hr; exact .inl hr
  · rw [e1] at hr; rcases List.mem_append.1 hr with hr | hr
    · exact .inl hr
    · rw [List.mem_singleton.1 hr]; exact .inr ⟨rfl, e2⟩
 refine ⟨by simp [h.lm], by simp [h.lh], fun r hr => ?_, ?_, fun r hr => ?_, fun p hp => ?_, fun i hi y hy ho => ?_, fun i hi y hy ho => ?_, fun r hr p h1 h2 => ?_, fun r hr => ?_⟩
 · rcases memS r hr with hr | ⟨hr, _⟩
   · have := h.lt r hr; omega
   · omega
 · rcases hS with e | ⟨e, e1, _⟩
   · rw [e]; exact h.srt
   · rw [e1]; exact List.pairwise_append.2 ⟨h.srt, by simp, fun a ha b hb => by rw [List.mem_singleton.1 hb]; exact h.lt a ha⟩
 · rcases memS r hr with hr | ⟨hr, ho⟩
   · exact h.op r hr
   · rw [hr]; exact ⟨x, hx, ho⟩
 · simp only; rw [getD_set _ _ _ _ _ hkh]; by_cases e : p = k
   · rw [if_pos e]; by_cases hs : s.S = []
     · left; rw [hs]; rfl
     · right; obtain ⟨S1, r, e1, e2⟩ := topA_of hs; have hr : r ∈ s.S := by rw [e1]; simp
       exact ⟨r.1, e2, by have := h.lt r hr; omega, h.op r hr, .inl ⟨r, sub r hr, rfl⟩⟩
   · rw [if_neg e]; rcases h.hom p (by omega) with h0 | ⟨q, h1, h2, h3, h4⟩
     · exact .inl h0
     · refine .inr ⟨q, h1, h2, h3, ?_⟩; rcases h4 with ⟨r, hr, e2⟩ | ⟨j, e2, e3⟩
       · exact .inl ⟨r, sub r hr, e2⟩
       · exact .inr ⟨j, by rw [getD_set _ _ _ _ _ hkm, if_neg (by omega)]; exact e2, e3⟩
 · by_cases e : i = k
   · subst e; rw [hx] at hy; injection hy with hy
     subst hy; rcases hS with e | ⟨e, e1, _⟩
     · exact absurd e (hno ho)
     · exact .inl ⟨(i, e), by rw [e1]; simp, rfl⟩
   · rcases h.cl i (by omega) y hy ho with ⟨r, hr, e2⟩ | ⟨j, h1, h2, h3, h4, h5, h6⟩
     · exact .inl ⟨r, sub r hr, e2⟩
     · refine .inr ⟨j, h1, by omega, ?_, fun p p1 p2 => ?_, fun p z p1 p2 hz hzo => ?_, h6⟩
       · simp only; rw [getD_set _ _ _ _ _ hkm, if_neg e]; exact h3
       · simp only; rw [getD_set _ _ _ _ _ hkh, if_neg (by omega)]; exact h4 p p1 p2
       · simp only; rw [getD_set _ _ _ _ _ hkm, if_neg (by omega)]; exact h5 p z p1 p2 hz hzo
 · by_cases e : i = k
   · subst e; rw [hx] at hy; injection hy with hy
     subst hy; exact absurd ho h22
   · simp only; rw [getD_set _ _ _ _ _ hkm, if_neg e]; exact h.nx i (by omega) y hy ho
 · simp only; rw [getD_set _ _ _ _ _ hkh]; rcases memS r hr with hr | ⟨hr, _⟩
   · by_cases e : p = k
     · rw [if_pos e]; have hs : s.S ≠ [] := fun e => by rw [e] at hr; cases hr
       obtain ⟨S1, q, e1, e2⟩ := topA_of hs; refine ⟨q.1, e2, ?_⟩; rw [e1] at hr; rcases List.mem_append.1 hr with hr | hr
       · have hsr := h.srt; rw [e1] at hsr; have := last_max hsr r hr; omega
       · rw [List.mem_singleton.1 hr]; exact NR _
     · rw [if_neg e]; exact h.ins r hr p h1 (by omega)
   · omega
 · simp only; rw [getD_set _ _ _ _ _ hkm]; rcases memS r hr with hr | ⟨hr, _⟩
   · rw [if_neg (by have := h.lt r hr; omega)]; exact h.mo r hr
   · rw [if_pos hr]
theorem ScW.close {l : List I3} {k : Nat} {s : ScanS} {x : I3} {S1 : List (Nat × I3)} {r : Nat × I3} (h : ScW l k s) (hx : l[k]? = some x) (hS : s.S = S1 ++ [r]) (ho22 : x.o = 22 ∨ x.o = 24) : ScW l (k + 1) ⟨((s.M.set k (-1)).set k (r.1 : Int)).set r.1 (k : Int), s.H.set k (topA s.S), S1⟩ := by
 have hk : k < l.length := (GI.1 hx).1; have hkm : k < s.M.length := by rw [h.lm]; exact hk
 have hkh : k < s.H.length := by rw [h.lh]; exact hk
 have hrS : r ∈ s.S := by rw [hS]; simp
 have hrk := h.lt r hrS; have hsr := h.srt; rw [hS] at hsr; have hmax := last_max hsr; have htop : topA s.S = (r.1 : Int) := by rw [hS]; exact topA_snoc S1 r
 have gM : ∀ p, (((s.M.set k (-1)).set k (r.1 : Int)).set r.1 (k : Int)).getD p 0 = if p = r.1 then (k : Int) else if p = k then (r.1 : Int) else s.M.getD p 0 := fun p => by
  rw [getD_set _ _ _ _ _ (by simp [h.lm]; omega), List.set_set, getD_set _ _ _ _ _ hkm]
 have gH : ∀ p, (s.H.set k (topA s.S)).getD p 0 = if p = k then (r.1 : Int) else s.H.getD p 0 := fun p => by rw [getD_set _ _ _ _ _ hkh, htop]
 have hin := h.ins r hrS; have inS : ∀ q ∈ s.S, q ∈ S1 ∨ q = r := fun q hq => by
  rw [hS] at hq; rcases List.mem_append.1 hq with hq | hq
  · exact .inl hq
  · exact .inr (List.mem_singleton.1 hq)
 have S1s : ∀ q ∈ S1, q ∈ s.S := fun q hq => by rw [hS]; exact List.mem_append_left _ hq
 have hox : (openI x).isSome = false := by rw [openI_22 ho22]; rfl
 refine ⟨by simp [h.lm], by simp [h.lh], fun q hq => by have := h.lt q (S1s q hq); show q.1 < k + 1; omega, (List.pairwise_append.1 hsr).1, fun q hq => h.op q (S1s q hq), fun p hp => ?_, fun i hi y hy ho => ?_, fun i hi y hy ho => ?_, fun q hq p h1 h2 => ?_, fun q hq => ?_⟩
 · simp only; rw [gH]; by_cases e : p = k
   · rw [if_pos e]; exact .inr ⟨r.1, rfl, by omega, h.op r hrS, .inr ⟨k, by rw [gM, if_pos rfl], by omega⟩⟩
   · rw [if_neg e]; rcases h.hom p (by omega) with h0 | ⟨q, h1, h2, h3, h4⟩
     · exact .inl h0
     · refine .inr ⟨q, h1, h2, h3, ?_⟩; rcases h4 with ⟨z, hz, e2⟩ | ⟨j, e2, e3⟩
       · rcases inS z hz with hz | hz
         · exact .inl ⟨z, hz, e2⟩
         · exact .inr ⟨k, by rw [gM, if_pos (by rw [← e2, hz])], by omega⟩
       · by_cases e4 : q = r.1
         · exact .inr ⟨k, by rw [gM, if_pos e4], by omega⟩
         · exact .inr ⟨j, by rw [gM, if_neg e4, if_neg (by omega)]; exact e2, e3⟩
 · have hik : i ≠ k := fun e => by
    subst e; rw [hx] at hy; injection hy with hy
    subst hy; rw [hox] at ho; cases ho
   have hcl := h.cl i (by omega) y hy ho; by_cases e : i = r.1
   · refine .inr ⟨k, by omega, by omega, ?_, fun p p1 p2 => ?_, fun p z p1 p2 hz hzo => ?_, x, hx, ho22⟩
     · simp only; rw [gM, if_pos e]
     · simp only; rw [gH]; by_cases e2 : p = k
       · rw [if_pos e2]; exact ⟨r.1, rfl, by omega⟩
       · rw [if_neg e2, e]; exact hin p (by omega) (by omega)
     · simp only; rw [gM, if_neg (by omega), if_neg (by omega)]; rcases h.cl p p2 z hz hzo with ⟨q, hq, e2⟩ | ⟨j, j1, j2, j3, _⟩
       · rcases inS q hq with hq | hq
         · have := hmax q hq; omega
         · rw [hq] at e2; omega
       · exact ⟨j, j2, j3⟩
   · rcases hcl with ⟨q, hq, e2⟩ | ⟨j, j1, j2, j3, j4, j5, j6⟩
     · rcases inS q hq with hq | hq
       · exact .inl ⟨q, hq, e2⟩
       · exact absurd (by rw [← e2, hq]) e
     · refine .inr ⟨j, j1, by omega, ?_, fun p p1 p2 => ?_, fun p z p1 p2 hz hzo => ?_, j6⟩
       · simp only; rw [gM, if_neg e, if_neg hik]; exact j3
       · simp only; rw [gH, if_neg (by omega)]; exact j4 p p1 p2
       · simp only; obtain ⟨j', q1, q2⟩ := j5 p z p1 p2 hz hzo; by_cases e3 : p = r.1
         · exfalso; have := h.mo r hrS; rw [← e3, q2] at this; omega
         · rw [gM, if_neg e3, if_neg (by omega)]; exact ⟨j', q1, q2⟩
 · by_cases e : i = k
   · subst e; simp only; rw [gM, if_neg (by omega), if_pos rfl]; exact ⟨r.1, hrk, rfl⟩
   · simp only; have hir : i ≠ r.1 := fun e2 => by
      obtain ⟨z, z1, z2⟩ := h.op r hrS; rw [← e2, hy] at z1; injection z1 with z1
      rw [← z1, openI_22 ho] at z2; cases z2
     rw [gM, if_neg hir, if_neg e]; exact h.nx i (by omega) y hy ho
 · simp only; rw [gH]; by_cases e : p = k
   · rw [if_pos e]; exact ⟨r.1, rfl, by have := hmax q hq; omega⟩
   · rw [if_neg e]; exact h.ins q (S1s q hq) p h1 (by omega)
 · simp only; have := hmax q hq; rw [gM, if_neg (by omega), if_neg (by omega)]; exact h.mo q (S1s q hq)
theorem scan1_w {l : List I3} {k : Nat} {x : I3} {s s' : ScanS} (h : ScW l k s) (hx : l[k]? = some x) (e : scan1 k x s = some s') : ScW l (k + 1) s' := by
 unfold scan1 at e; cases ho : openI x with
 | some y =>
  rw [ho] at e; injection e with e
  subst e; have h22 : ¬ (x.o = 22 ∨ x.o = 24) := fun h => by rw [openI_22 h] at ho; cases ho
  exact h.ahead hx _ (.inr ⟨y, rfl, by rw [ho]; rfl⟩) (fun _ e => by have := congrArg List.length e; simp at this) h22
 | none =>
  rw [ho] at e; dsimp only at e; split at e
  · rename_i h1; injection e with e
    subst e; exact h.ahead hx _ (.inl rfl) (fun h2 => by rw [ho] at h2; cases h2) (by omega)
  · rename_i h1; split at e
    · cases e
    · rename_i r hl; split at e
      · injection e with e
        subst e; obtain ⟨S1, r2, hS⟩ := snoc_of s.S (fun e2 => by rw [e2] at hl; cases hl); have : r2 = r := by rw [hS] at hl; simpa using hl
        subst this; have hd : s.S.dropLast = S1 := by rw [hS]; simp
        rw [hd]; exact h.close hx hS (by omega)
      · cases e
theorem scanR_w (l : List I3) : ∀ (n k : Nat) (s s' : ScanS), n = l.length - k → k ≤ l.length → ScW l k s → scanR (l.drop k) k s = some s' → ScW l l.length s' := by
 intro n; induction n with
 | zero =>
  intro k s s' hn hk h e; have hk' : k = l.length := by omega
  subst hk'; rw [List.drop_length, scanR] at e; injection e with e
  subst e; exact h
 | succ n ih =>
  intro k s s' hn hk h e; have hd : k < l.length := by omega
  have hx := GE hd; rw [scanR_cons hx] at e; split at e
  · cases e
  · rename_i s1 h1; exact ih (k + 1) s1 s' (by omega) (by omega) (scan1_w h hx h1) e
theorem scan_w (l : List I3) (hs : (scanP l).isSome = true) : ScW l l.length ⟨matchP l, homeP l, []⟩ := by
 have h := scan_ok l hs; unfold scanP at h; split at h
 · cases h
 · rename_i s e; split at h
   · rename_i h0; injection h with h
     injection h with h1 h2
     have hW := scanR_w l l.length 0 (scan0 l.length) s (by omega) (by omega) ⟨by simp [scan0], by simp [scan0], by simp [scan0], by simp [scan0], by simp [scan0], fun p hp => by omega, fun i hi => by omega, fun i hi => by omega, by simp [scan0], by simp [scan0]⟩ (by rw [List.drop_zero]; exact e); have : s = ⟨matchP l, homeP l, []⟩ := by rw [← h1, ← h2, ← h0]
     rw [this] at hW; exact hW
   · cases h
theorem ends_at {last : Nat} {l : List I3} : ∀ (n k : Nat), n = l.length - k → endsF last (l.drop k) k = true → ∀ i x, k ≤ i → l[i]? = some x → (x.o == 25) = ((i : Int) == (last : Int)) := by
 intro n; induction n with
 | zero =>
  intro k hn _ i x hi hx; have := (GI.1 hx).1; omega
 | succ n ih =>
  intro k hn h i x hi hx; have hd : k < l.length := by omega
  rw [endsF_cons (GE hd), Bool.and_eq_true] at h; by_cases e : i = k
  · subst e; rw [GE hd] at hx; injection hx with hx
    rw [← hx]; exact beq_iff_eq.mp h.1
  · exact ih (k + 1) (by omega) h.2 i x (by omega) hx
theorem jumps_at {last : Nat} {H : List Int} {l : List I3} : ∀ (n k : Nat), n = l.length - k → jumpsF H last (l.drop k) k = true → ∀ i x, k ≤ i → l[i]? = some x → x.o = 19 ∨ x.o = 20 → (i : Int) + 1 + x.a ≤ (last : Int) ∧ H.getD ((i : Int) + 1 + x.a).toNat 0 = H.getD i 0 := by
 intro n; induction n with
 | zero =>
  intro k hn _ i x hi hx; have := (GI.1 hx).1; omega
 | succ n ih =>
  intro k hn h i x hi hx ho; have hd : k < l.length := by omega
  rw [jumpsF_cons (GE hd), Bool.and_eq_true] at h; by_cases e : i = k
  · subst e; rw [GE hd] at hx; injection hx with hx
    rw [hx] at h; have h1 := h.1; rw [if_pos ho, Bool.and_eq_true, decide_eq_true_eq, beq_iff_eq] at h1; exact h1
  · exact ih (k + 1) (by omega) h.2 i x (by omega) hx ho
structure WholeOk (l : List I3) : Prop where
 sc : ScW l l.length ⟨matchP l, homeP l, []⟩
 fin : ∀ i x, l[i]? = some x → (x.o = 25 ↔ i + 1 = l.length)
 jmp : ∀ i x, l[i]? = some x → x.o = 19 ∨ x.o = 20 → 0 ≤ x.a ∧ i + 1 + x.a.toNat < l.length ∧ (homeP l).getD (i + 1 + x.a.toNat) 0 = (homeP l).getD i 0
theorem whole_ok {l : List I3} (hl : OkL l) (h : wholeP l = 0) : WholeOk l := by
 have hs := whole_scan h; have hpos := hl.pos; unfold wholeP at h; rw [if_pos hs] at h; split at h
 · rename_i he; split at h
   · rename_i hj; refine ⟨scan_w l hs, fun i x hx => ?_, fun i x hx ho => ?_⟩
     · have hi := (GI.1 hx).1; have := ends_at l.length 0 (by omega) (by rw [List.drop_zero]; exact he) i x (by omega) hx; constructor
       · intro e; rw [show (x.o == 25) = true from beq_iff_eq.mpr e] at this; have := beq_iff_eq.mp this.symm; omega
       · intro e; rw [show ((i : Int) == ((l.length - 1 : Nat) : Int)) = true from beq_iff_eq.mpr (by omega)] at this; exact beq_iff_eq.mp this
     · have := jumps_at l.length 0 (by omega) (by rw [List.drop_zero]; exact hj) i x (by omega) hx ho; have hb := jump_bd (hl.all x (LM hx)) ho; have e : ((i : Int) + 1 + x.a).toNat = i + 1 + x.a.toNat := by omega
       rw [e] at this; exact ⟨hb.1, by omega, this.2⟩
   · omega
 · omega
end Go.Proofs.YtoopeamoejmjeaaGreat.Tp
namespace Go.Proofs.YtoopeamoejmjeaaGreat.Tp
open RowKit YtoopeamoejmjeaaGreatW.PrintWords YtoopeamoejmjeaaGreatW.PrintLast YtoopeamoejmjeaaGreatW.PrintMore Tm
section
def fl0 (n : Nat) : FlS := ⟨List.replicate n bN, List.replicate n false, List.replicate n false⟩
def stacksF (M : List Int) : List I3 → Nat → FlS → Int
 | [], _, _ => 0
 | x :: r, k, fl => if (oneP fl k x M).1 = 0 then stacksF M r (k + 1) (oneP fl k x M).2 else (oneP fl k x M).1
def stacksE (l : List I3) : Int := if wholeP l = 0 then stacksF (matchP l) l 0 (handF (fl0 l.length) 0 bN) else wholeP l
theorem stacksF_cons {M : List Int} {l : List I3} {k : Nat} {x : I3} (hx : l[k]? = some x) (fl : FlS) : stacksF M (l.drop k) k fl = if (oneP fl k x M).1 = 0 then stacksF M (l.drop (k + 1)) (k + 1) (oneP fl k x M).2 else (oneP fl k x M).1 := by
 rw [drop_consT l k x hx, stacksF]
def FlLe (fl : FlS) : Prop := ∀ p, (fl.S.getD p bN).size ≤ 16
theorem handF_le {fl : FlS} (h : FlLe fl) (k : Nat) (s : ByteArray) (hs : s.size ≤ 16) : FlLe (handF fl k s) := by
 intro p; show ((fl.S.set k s).getD p bN).size ≤ 16; by_cases hk : k < fl.S.length
 · rw [getD_set _ _ _ _ _ hk]; split
   · exact hs
   · exact h p
 · rw [List.set_eq_of_length_le (by omega)]; exact h p
theorem afterP_le {o p : Int} {s t : ByteArray} {e : Int} (h : afterP o p s = (t, e)) (he : e = 0) : t.size ≤ 16 := by
 subst he; unfold afterP at h; repeat' split at h
 all_goals first | (injection h with h1 h2; subst h1; first | omega | cases h2)
theorem oneP_le {fl : FlS} {k : Nat} {x : I3} {M : List Int} (h : FlLe fl) : FlLe (oneP fl k x M).2 := by
 unfold oneP; split
 · exact h
 · split
   · exact h
   · split
     · rename_i he; have ht := afterP_le (o := x.o) (p := x.a) (s := fl.S.getD k bN) rfl he; unfold jmpF nextF; split <;> split <;> first | exact h | exact handF_le h _ _ ht | exact handF_le (handF_le h _ _ ht) _ _ ht
     · exact h
theorem fl0_le (n : Nat) : FlLe (fl0 n) := by
 intro p; unfold fl0; rw [GD, List.getElem?_replicate]; split <;> decide
theorem info9T : (Tryz.prog.info? 9).map (fun i => (i.zero, i.size, i.bytes)) = some (some (.string ⟨#[]⟩), 1, 16) := by kernel_rfl
theorem info4T : (Tryz.prog.info? 4).map (fun i => (i.zero, i.size, i.bytes)) = some (some (.bool false), 1, 1) := by kernel_rfl
theorem mk140 (n : Nat) (hn : n ≤ 1000) (w : World) : (Instr.makeSlice 140 (O Y (n : Int)) (O Y (n : Int))).run Tryz.prog w = .ok (.slice (some ⟨w.heap.size, 0, none⟩) n n) (w.alloc (.cells (arrV Value.string (List.replicate n bN)) 9)) := by
 have h := run_make_row' 140 9 (.string ⟨#[]⟩) 16 Tryz.underlying140 info9T rfl .i64 .i64 n (by omega) (by omega) w; have e : madeCells #[Value.string ⟨#[]⟩] n = arrV Value.string (List.replicate n bN) := by
  apply Array.ext
  · rw [size_madeCells]; simp [arrV]
  · intro i h1 h2; simp [madeCells, arrV, Nat.mod_one]; rfl
 rw [← e]; exact h
theorem mk223 (n : Nat) (hn : n ≤ 1000) (w : World) : (Instr.makeSlice 223 (O Y (n : Int)) (O Y (n : Int))).run Tryz.prog w = .ok (.slice (some ⟨w.heap.size, 0, none⟩) n n) (w.alloc (.cells (arrV Value.bool (List.replicate n false)) 4)) := by
 have h := run_make_row' 223 4 (.bool false) 1 Tryz.underlying223 info4T rfl .i64 .i64 n (by omega) (by omega) w; have e : madeCells #[Value.bool false] n = arrV Value.bool (List.replicate n false) := by
  apply Array.ext
  · rw [size_madeCells]; simp [arrV]
  · intro i h1 h2; simp [madeCells, arrV, Nat.mod_one]
 rw [← e]; exact h
def sl (g n : Nat) : Value := .slice (some ⟨g, 0, none⟩) n n
def RS (w0 : World) (A : Option Addr) (c n : Nat) (i : Nat) (v : Value) (w : World) : Prop := match i with
 | 0 => v = .slice A n c
 | 3 => v = .slice A n c
 | 6 => v = .slice A n c
 | 1 => v = O Y (n : Int)
 | 4 => v = O Y (n : Int)
 | 7 => v = O Y (n : Int)
 | 2 => ∃ g, v = sl g n ∧ w0.heap.size ≤ g ∧ w.heap[g]? = some (.cells (arrV Value.string (List.replicate n bN)) 9 (0, 0))
 | 5 => ∃ g, v = sl g n ∧ w0.heap.size ≤ g ∧ w.heap[g]? = some (.cells (arrV Value.bool (List.replicate n false)) 4 (0, 0))
 | 8 => ∃ g, v = sl g n ∧ w0.heap.size ≤ g ∧ w.heap[g]? = some (.cells (arrV Value.bool (List.replicate n false)) 4 (0, 0))
 | 9 => ∃ gs gb gc, v = .agg #[sl gs n, sl gb n, sl gc n] ∧ (w0.heap.size ≤ gs ∧ w0.heap.size ≤ gb ∧ w0.heap.size ≤ gc) ∧ w.heap[gs]? = some (.cells (arrV Value.string (List.replicate n bN)) 9 (0, 0)) ∧ w.heap[gb]? = some (.cells (arrV Value.bool (List.replicate n false)) 4 (0, 0)) ∧ w.heap[gc]? = some (.cells (arrV Value.bool (List.replicate n false)) 4 (0, 0)) ∧ gb ≠ gc
 | 10 => ∃ gf gs gb gc, v = .pointer (some ⟨gf, 0, none⟩) ∧ FlowAt w0 w gf gs gb gc n (fl0 n)
 | 11 => ∃ gf gs gb gc, v = .pointer (some ⟨gf, 0, none⟩) ∧ FlowAt w0 w gf gs gb gc n (fl0 n)
 | _ => True
def GB (w w' : World) : Prop := Below w.heap.size w w'
theorem GB.blk {w w' : World} (g : GB w w') {k : Nat} {o : Obj} (h : w.heap[k]? = some o) : w'.heap[k]? = some o := (g.block k (ltA h)).trans h
theorem RS.step (w0 : World) (A : Option Addr) (c n : Nat) (i : Nat) (v : Value) (w w' : World) (g : GB w w') (h : RS w0 A c n i v w) : RS w0 A c n i v w' := by
 unfold RS at h ⊢; split <;> try dsimp only at h
 · exact h
 · exact h
 · exact h
 · exact h
 · exact h
 · exact h
 · obtain ⟨b, h1, h2, h3⟩ := h; exact ⟨b, h1, h2, g.blk h3⟩
 · obtain ⟨b, h1, h2, h3⟩ := h; exact ⟨b, h1, h2, g.blk h3⟩
 · obtain ⟨b, h1, h2, h3⟩ := h; exact ⟨b, h1, h2, g.blk h3⟩
 · obtain ⟨gs, gb, gc, h1, h2, h3, h4, h5, h6⟩ := h; exact ⟨gs, gb, gc, h1, h2, g.blk h3, g.blk h4, g.blk h5, h6⟩
 · obtain ⟨gf, gs, gb, gc, h1, h2⟩ := h; exact ⟨gf, gs, gb, gc, h1, h2.step g⟩
 · obtain ⟨gf, gs, gb, gc, h1, h2⟩ := h; exact ⟨gf, gs, gb, gc, h1, h2.step g⟩
 · trivial
def JS (w0 : World) (n : Nat) (L : Nat → Bool) (s : Nat → Value) (w : World) : Prop := Below w0.heap.size w0 w ∧ (L 5 = true → L 8 = true → ∃ gb gc, s 26 = sl gb n ∧ s 29 = sl gc n ∧ gb ≠ gc)
theorem JS.mov {w0 w w' : World} {n : Nat} {L : Nat → Bool} {s : Nat → Value} (h : JS w0 n L s w) {i : Nat} (h5 : i ≠ 5) (h8 : i ≠ 8) (d : Option Tmp) (v : Value) (hd : d ≠ some 26 ∧ d ≠ some 29) (hb : GB w w') : JS w0 n (upd L i) (fun e => if d = some e then v else s e) w' := by
 refine ⟨h.1.trans (hb.mono h.1.size), fun u5 u8 => ?_⟩; rw [upd_ne L (fun e => h5 e.symm)] at u5; rw [upd_ne L (fun e => h8 e.symm)] at u8; obtain ⟨gb, gc, e1, e2, e3⟩ := h.2 u5 u8; exact ⟨gb, gc, by rw [← e1]; exact if_neg hd.1, by rw [← e2]; exact if_neg hd.2, e3⟩
section
variable {w0 w : World} {A : Option Addr} {c n i : Nat} {L : Nat → Bool} {a : Act} {oi : Oper}
theorem val_ok {x : Value} {w' : World} (hrun : (execOp a.eval oi).run Tryz.prog w = .ok (.value x) w') (hR : RS w0 A c n i x w') (h5 : i ≠ 5) (h8 : i ≠ 8) (hd : oi.dst ≠ some 26 ∧ oi.dst ≠ some 29) (hJ : JS w0 n L (fun e => a.tmps.getD e undef) w) (hb : GB w w') : Out Tryz.prog (RS w0 A c n) (JS w0 n) GB i oi L a w :=
 .inl ⟨x, w', hrun, hR, hJ.mov h5 h8 _ _ hd hb, hb⟩
theorem mv_ok {t : Tmp} (hop : oi.op = .move (.tmp t) ∨ oi.op = .assign (.tmp t)) (hR : RS w0 A c n i (a.tmps.getD t undef) w) (h5 : i ≠ 5) (h8 : i ≠ 8) (hd : oi.dst ≠ some 26 ∧ oi.dst ≠ some 29) (hJ : JS w0 n L (fun e => a.tmps.getD e undef) w) : Out Tryz.prog (RS w0 A c n) (JS w0 n) GB i oi L a w := by
 refine val_ok (x := a.tmps.getD t undef) (w' := w) ?_ hR h5 h8 hd hJ (BR _ _); rcases hop with h | h <;> (unfold execOp; rw [h]; rfl)
theorem len_ok {t : Tmp} {ts : Array TypeId} (hop : oi.op = .call { callee := .builtin .len, args := #[.tmp t], argTypes := ts }) (hts : ts = #[43]) (hv : a.tmps.getD t undef = .slice A n c) (hR : RS w0 A c n i (O Y (n : Int)) w) (h5 : i ≠ 5) (h8 : i ≠ 8) (hd : oi.dst ≠ some 26 ∧ oi.dst ≠ some 29) (hJ : JS w0 n L (fun e => a.tmps.getD e undef) w) : Out Tryz.prog (RS w0 A c n) (JS w0 n) GB i oi L a w := by
 refine val_ok (x := O Y (n : Int)) (w' := w) ?_ hR h5 h8 hd hJ (BR _ _); rw [show oi = ⟨oi.dst, oi.op, oi.type, oi.pos, oi.after, oi.guard⟩ from rfl, hop, hts]; have he : a.eval (.tmp t) = .slice A n c := hv; generalize a.eval = ρ at *; go_simp
theorem mk_run {ty : TypeId} {t : Tmp} {v : Value} {w' : World} (hop : oi.op = .makeSlice ty (.tmp t) (.tmp t)) (hv : a.tmps.getD t undef = O Y (n : Int)) (hm : (Instr.makeSlice ty (O Y (n : Int)) (O Y (n : Int))).run Tryz.prog w = .ok v w') : (execOp a.eval oi).run Tryz.prog w = .ok (.value v) w' := by
 rw [show oi = ⟨oi.dst, oi.op, oi.type, oi.pos, oi.after, oi.guard⟩ from rfl, hop]; unfold execOp; simp only [Act.eval]; rw [hv]; simp [hm, Result.andThen]
theorem mk2_ok (hn : n ≤ 1000) {t : Tmp} (hop : oi.op = .makeSlice 140 (.tmp t) (.tmp t)) (hv : a.tmps.getD t undef = O Y (n : Int)) (hd : oi.dst ≠ some 26 ∧ oi.dst ≠ some 29) (hJ : JS w0 n L (fun e => a.tmps.getD e undef) w) : Out Tryz.prog (RS w0 A c n) (JS w0 n) GB 2 oi L a w :=
 val_ok (mk_run hop hv (mk140 n hn w)) ⟨w.heap.size, rfl, hJ.1.size, heap_alloc_last w _⟩ (by decide) (by decide) hd hJ ((BR w.heap.size w).alloc (NR _) _)
theorem mk5_ok (hn : n ≤ 1000) {t : Tmp} (hop : oi.op = .makeSlice 223 (.tmp t) (.tmp t)) (hv : a.tmps.getD t undef = O Y (n : Int)) (hd : oi.dst = some 26) (hJ : JS w0 n L (fun e => a.tmps.getD e undef) w) (h8 : L 8 = true → RS w0 A c n 8 (a.tmps.getD 29 undef) w) : Out Tryz.prog (RS w0 A c n) (JS w0 n) GB 5 oi L a w := by
 have hb : GB w (w.alloc (.cells (arrV Value.bool (List.replicate n false)) 4)) := (BR w.heap.size w).alloc (NR _) _; refine .inl ⟨_, _, mk_run hop hv (mk223 n hn w), ⟨w.heap.size, rfl, hJ.1.size, heap_alloc_last w _⟩, ⟨hJ.1.trans (hb.mono hJ.1.size), fun _ u8 => ?_⟩, hb⟩; rw [upd_ne L (by decide)] at u8; obtain ⟨g, e1, e2, e3⟩ := h8 u8; rw [hd]; exact ⟨w.heap.size, g, rfl, e1, by have := (ltA e3); omega⟩
theorem mk8_ok (hn : n ≤ 1000) {t : Tmp} (hop : oi.op = .makeSlice 223 (.tmp t) (.tmp t)) (hv : a.tmps.getD t undef = O Y (n : Int)) (hd : oi.dst = some 29) (hJ : JS w0 n L (fun e => a.tmps.getD e undef) w) (h5 : L 5 = true → RS w0 A c n 5 (a.tmps.getD 26 undef) w) : Out Tryz.prog (RS w0 A c n) (JS w0 n) GB 8 oi L a w := by
 have hb : GB w (w.alloc (.cells (arrV Value.bool (List.replicate n false)) 4)) := (BR w.heap.size w).alloc (NR _) _; refine .inl ⟨_, _, mk_run hop hv (mk223 n hn w), ⟨w.heap.size, rfl, hJ.1.size, heap_alloc_last w _⟩, ⟨hJ.1.trans (hb.mono hJ.1.size), fun u5 _ => ?_⟩, hb⟩; rw [upd_ne L (by decide)] at u5; obtain ⟨g, e1, e2, e3⟩ := h5 u5; rw [hd]; exact ⟨g, w.heap.size, e1, rfl, by have := (ltA e3); omega⟩
theorem bd9_ok (hop : oi.op = .build 225 #[(0, .tmp 23), (1, .tmp 26), (2, .tmp 29)]) (hd : oi.dst ≠ some 26 ∧ oi.dst ≠ some 29) (hJ : JS w0 n L (fun e => a.tmps.getD e undef) w) (l5 : L 5 = true) (l8 : L 8 = true) (r2 : RS w0 A c n 2 (a.tmps.getD 23 undef) w) (r5 : RS w0 A c n 5 (a.tmps.getD 26 undef) w) (r8 : RS w0 A c n 8 (a.tmps.getD 29 undef) w) : Out Tryz.prog (RS w0 A c n) (JS w0 n) GB 9 oi L a w := by
 obtain ⟨gs, e1, e2, e3⟩ := r2; obtain ⟨gb, f1, f2, f3⟩ := r5; obtain ⟨gc, g1, g2, g3⟩ := r8; have hne : gb ≠ gc := by
  obtain ⟨b, c', h1, h2, h3⟩ := hJ.2 l5 l8; intro e; have h4 := h1.symm.trans f1; have h5 := h2.symm.trans g1; unfold sl at h4 h5; injection h4 with h4
  injection h4 with h4
  injection h4 with h4
  injection h5 with h5
  injection h5 with h5
  injection h5 with h5
  omega
 refine val_ok (x := .agg #[sl gs n, sl gb n, sl gc n]) (w' := w) ?_ ⟨gs, gb, gc, rfl, ⟨e2, f2, g2⟩, e3, f3, g3, hne⟩ (by decide) (by decide) hd hJ (BR _ _); rw [show oi = ⟨oi.dst, oi.op, oi.type, oi.pos, oi.after, oi.guard⟩ from rfl, hop]; have q1 : a.eval (.tmp 23) = .slice (some ⟨gs, 0, none⟩) n n := e1; have q2 : a.eval (.tmp 26) = .slice (some ⟨gb, 0, none⟩) n n := f1; have q3 : a.eval (.tmp 29) = .slice (some ⟨gc, 0, none⟩) n n := g1; unfold sl; generalize a.eval = ρ at *; clear e1 f1 g1; go_simp
theorem bx_ok (hop : oi.op = .box 225 (.tmp 30)) (hd : oi.dst ≠ some 26 ∧ oi.dst ≠ some 29) (hJ : JS w0 n L (fun e => a.tmps.getD e undef) w) (r9 : RS w0 A c n 9 (a.tmps.getD 30 undef) w) : Out Tryz.prog (RS w0 A c n) (JS w0 n) GB 10 oi L a w := by
 obtain ⟨gs, gb, gc, e1, ⟨e2, e3, e4⟩, e5, e6, e7, e8⟩ := r9; have hb : GB w (w.alloc (.cells #[sl gs n, sl gb n, sl gc n] 225)) := (BR w.heap.size w).alloc (NR _) _; refine val_ok (x := .pointer (some ⟨w.heap.size, 0, none⟩)) (w' := w.alloc (.cells #[sl gs n, sl gb n, sl gc n] 225)) ?_ ⟨w.heap.size, gs, gb, gc, rfl, ⟨hJ.1.trans (hb.mono hJ.1.size), heap_alloc_last w _, hb.blk e5, hb.blk e6, hb.blk e7, by simp [fl0], by simp [fl0], by simp [fl0], e8, hJ.1.size, e2, e3, e4⟩⟩ (by decide) (by decide) hd hJ hb; rw [show oi = ⟨oi.dst, oi.op, oi.type, oi.pos, oi.after, oi.guard⟩ from rfl, hop]; have q1 : a.eval (.tmp 30) = .agg #[.slice (some ⟨gs, 0, none⟩) n n, .slice (some ⟨gb, 0, none⟩) n n, .slice (some ⟨gc, 0, none⟩) n n] := e1; unfold sl; generalize a.eval = ρ at *; clear e1 hb; go_simp
end
theorem arr54 (T : Array Value) (h : T.size = 54) : ∃ x0 x1 x2 x3 x4 x5 x6 x7 x8 x9 x10 x11 x12 x13 x14 x15 x16 x17 x18 x19 x20 x21 x22 x23 x24 x25 x26 x27 x28 x29 x30 x31 x32 x33 x34 x35 x36 x37 x38 x39 x40 x41 x42 x43 x44 x45 x46 x47 x48 x49 x50 x51 x52 x53, T = #[x0, x1, x2, x3, x4, x5, x6, x7, x8, x9, x10, x11, x12, x13, x14, x15, x16, x17, x18, x19, x20, x21, x22, x23, x24, x25, x26, x27, x28, x29, x30, x31, x32, x33, x34, x35, x36, x37, x38, x39, x40, x41, x42, x43, x44, x45, x46, x47, x48, x49, x50, x51, x52, x53] := by
 obtain ⟨l⟩ := T; obtain _ | ⟨x0, l⟩ := l
 · simp at h
 obtain _ | ⟨x1, l⟩ := l
 · simp at h
 obtain _ | ⟨x2, l⟩ := l
 · simp at h
 obtain _ | ⟨x3, l⟩ := l
 · simp at h
 obtain _ | ⟨x4, l⟩ := l
 · simp at h
 obtain _ | ⟨x5, l⟩ := l
 · simp at h
 obtain _ | ⟨x6, l⟩ := l
 · simp at h
 obtain _ | ⟨x7, l⟩ := l
 · simp at h
 obtain _ | ⟨x8, l⟩ := l
 · simp at h
 obtain _ | ⟨x9, l⟩ := l
 · simp at h
 obtain _ | ⟨x10, l⟩ := l
 · simp at h
 obtain _ | ⟨x11, l⟩ := l
 · simp at h
 obtain _ | ⟨x12, l⟩ := l
 · simp at h
 obtain _ | ⟨x13, l⟩ := l
 · simp at h
 obtain _ | ⟨x14, l⟩ := l
 · simp at h
 obtain _ | ⟨x15, l⟩ := l
 · simp at h
 obtain _ | ⟨x16, l⟩ := l
 · simp at h
 obtain _ | ⟨x17, l⟩ := l
 · simp at h
 obtain _ | ⟨x18, l⟩ := l
 · simp at h
 obtain _ | ⟨x19, l⟩ := l
 · simp at h
 obtain _ | ⟨x20, l⟩ := l
 · simp at h
 obtain _ | ⟨x21, l⟩ := l
 · simp at h
 obtain _ | ⟨x22, l⟩ := l
 · simp at h
 obtain _ | ⟨x23, l⟩ := l
 · simp at h
 obtain _ | ⟨x24, l⟩ := l
 · simp at h
 obtain _ | ⟨x25, l⟩ := l
 · simp at h
 obtain _ | ⟨x26, l⟩ := l
 · simp at h
 obtain _ | ⟨x27, l⟩ := l
 · simp at h
 obtain _ | ⟨x28, l⟩ := l
 · simp at h
 obtain _ | ⟨x29, l⟩ := l
 · simp at h
 obtain _ | ⟨x30, l⟩ := l
 · simp at h
 obtain _ | ⟨x31, l⟩ := l
 · simp at h
 obtain _ | ⟨x32, l⟩ := l
 · simp at h
 obtain _ | ⟨x33, l⟩ := l
 · simp at h
 obtain _ | ⟨x34, l⟩ := l
 · simp at h
 obtain _ | ⟨x35, l⟩ := l
 · simp at h
 obtain _ | ⟨x36, l⟩ := l
 · simp at h
 obtain _ | ⟨x37, l⟩ := l
 · simp at h
 obtain _ | ⟨x38, l⟩ := l
 · simp at h
 obtain _ | ⟨x39, l⟩ := l
 · simp at h
 obtain _ | ⟨x40, l⟩ := l
 · simp at h
 obtain _ | ⟨x41, l⟩ := l
 · simp at h
 obtain _ | ⟨x42, l⟩ := l
 · simp at h
 obtain _ | ⟨x43, l⟩ := l
 · simp at h
 obtain _ | ⟨x44, l⟩ := l
 · simp at h
 obtain _ | ⟨x45, l⟩ := l
 · simp at h
 obtain _ | ⟨x46, l⟩ := l
 · simp at h
 obtain _ | ⟨x47, l⟩ := l
 · simp at h
 obtain _ | ⟨x48, l⟩ := l
 · simp at h
 obtain _ | ⟨x49, l⟩ := l
 · simp at h
 obtain _ | ⟨x50, l⟩ := l
 · simp at h
 obtain _ | ⟨x51, l⟩ := l
 · simp at h
 obtain _ | ⟨x52, l⟩ := l
 · simp at h
 obtain _ | ⟨x53, l⟩ := l
 · simp at h
 obtain _ | ⟨y, l⟩ := l
 · exact ⟨x0, x1, x2, x3, x4, x5, x6, x7, x8, x9, x10, x11, x12, x13, x14, x15, x16, x17, x18, x19, x20, x21, x22, x23, x24, x25, x26, x27, x28, x29, x30, x31, x32, x33, x34, x35, x36, x37, x38, x39, x40, x41, x42, x43, x44, x45, x46, x47, x48, x49, x50, x51, x52, x53, rfl⟩
 · simp at h; try omega
def StRel (w : World) (l : List I3) (gf gs gb gc : Nat) (vi : Value) (wr : World) : Prop := ∃ (k : Nat) (fl : FlS), k ≤ l.length ∧ vi = O Y k ∧ FlowAt w wr gf gs gb gc l.length fl ∧ FlLe fl ∧ stacksF (matchP l) l 0 (handF (fl0 l.length) 0 bN) = stacksF (matchP l) (l.drop k) k fl
theorem one_ok {l : List I3} (hl : OkL l) (hw : WholeOk l) {k : Nat} {x : I3} (hx : l[k]? = some x) : OneOk l.length k x (matchP l) := by
 have hk := (GI.1 hx).1; have hm := LM hx; refine ⟨hk, hl.le, hl.all x hm, hl.sm x hm, fun h => ?_, fun _ h => ?_, fun h => ?_⟩
 · obtain ⟨j, h1, h2⟩ := hw.sc.nx k hk x hx (.inl h); exact ⟨j, h2, by omega⟩
 · have := (hw.fin k x hx)
   have : k + 1 ≠ l.length := fun e => h (this.2 e); omega
 · exact (hw.jmp k x hx h).2.1
theorem stacks_any (v : Value) (l : List I3) (w : World) (h : CodeAt w v l) (hl : OkL l) : Calls Tryz.prog 59 #[v] w fun e w' => ∃ vs, e = .returned (.tuple #[vs, O Y (stacksE l)]) ∧ Below w.heap.size w w' := by
 obtain ⟨A, c, rfl, hc, _⟩ := id h; have hlen := hl.le; have hpos := hl.pos; have hW := ZZ (whole_any _ l w h hl); have H0 := ZZ h; have hl0 := ZZ hl; clear h hl; by_cases hw0 : wholeP l = 0
 · have hs := ZZ (whole_scan hw0); have hwo := ZZ (whole_ok hl0.out hw0); have hE := ZZ (show stacksE l = stacksF (matchP l) l 0 (handF (fl0 l.length) 0 bN) from if_pos hw0); rw [hw0] at hW; clear hw0; have hn : l.length ≤ 1000 := by omega
   replace hpos := ZZ hpos; go_enter Tryz.func59, Tryz.ntmps59; go_wp2_with fail; refine hW.out.mono ?_; rintro e w1 ⟨rfl, hb1⟩; have hb1' := ZZ hb1; have hMa := ZZ (match_any _ l w1 (H0.out.step hb1) hl0.out hs.out); clear hb1 hW; go_wp2_with fail; refine hMa.out.mono ?_; rintro e w2 ⟨vm, rfl, hAm, hb2⟩; have hb2' := ZZ (hb1'.out.trans (hb2.mono hb1'.out.size)); replace hAm := ZZ hAm; clear hb2 hMa hb1'; replace hn := ZZ hn; go_wp2_with fail; replace hn := hn.out; refine wp_region_inv (RS w2 A c l.length) (JS w2 l.length) GB (by kernel_rfl) (by kernel_rfl) (RS.step _ _ _ _) ⟨(BR _ _).drew, fun h => Bool.noConfusion h⟩ ?_ ?_
   · refine ⟨fun L a w h hl hd => mv_ok (.inl rfl) (h.fix 0 (by kernel_rfl)) (by decide) (by decide) ⟨by decide, by decide⟩ h.inv,
     fun L a w h hl hd => len_ok rfl rfl (h.val 0 _ 21 rfl rfl (hd _ (AM (i := 0) rfl) (by rfl))) (by rfl) (by decide) (by decide) ⟨by decide, by decide⟩ h.inv,
     fun L a w h hl hd => mk2_ok hn rfl (h.val 1 _ 22 rfl rfl (hd _ (AM (i := 0) rfl) (by rfl))) ⟨by decide, by decide⟩ h.inv,
     fun L a w h hl hd => mv_ok (.inl rfl) (h.fix 0 (by kernel_rfl)) (by decide) (by decide) ⟨by decide, by decide⟩ h.inv,
     fun L a w h hl hd => len_ok rfl rfl (h.val 3 _ 24 rfl rfl (hd _ (AM (i := 0) rfl) (by rfl))) (by rfl) (by decide) (by decide) ⟨by decide, by decide⟩ h.inv,
     fun L a w h hl hd => mk5_ok hn rfl (h.val 4 _ 25 rfl rfl (hd _ (AM (i := 0) rfl) (by rfl))) rfl h.inv (fun u => h.val 8 _ 29 rfl rfl u),
     fun L a w h hl hd => mv_ok (.inl rfl) (h.fix 0 (by kernel_rfl)) (by decide) (by decide) ⟨by decide, by decide⟩ h.inv,
     fun L a w h hl hd => len_ok rfl rfl (h.val 6 _ 27 rfl rfl (hd _ (AM (i := 0) rfl) (by rfl))) (by rfl) (by decide) (by decide) ⟨by decide, by decide⟩ h.inv,
     fun L a w h hl hd => mk8_ok hn rfl (h.val 7 _ 28 rfl rfl (hd _ (AM (i := 0) rfl) (by rfl))) rfl h.inv (fun u => h.val 5 _ 26 rfl rfl u),
     fun L a w h hl hd => bd9_ok rfl ⟨by decide, by decide⟩ h.inv (hd _ (AM (i := 1) rfl) (by rfl)) (hd _ (AM (i := 2) rfl) (by rfl)) (h.val 2 _ 23 rfl rfl (hd _ (AM (i := 0) rfl) (by rfl))) (h.val 5 _ 26 rfl rfl (hd _ (AM (i := 1) rfl) (by rfl))) (h.val 8 _ 29 rfl rfl (hd _ (AM (i := 2) rfl) (by rfl))),
     fun L a w h hl hd => bx_ok rfl ⟨by decide, by decide⟩ h.inv (h.val 9 _ 30 rfl rfl (hd _ (AM (i := 0) rfl) (by rfl))),
     fun L a w h hl hd => mv_ok (.inr rfl) (h.val 10 _ 31 rfl rfl (hd _ (AM (i := 0) rfl) (by rfl))) (by decide) (by decide) ⟨by decide, by decide⟩ h.inv, trivial⟩
   · intro L a' w' hI hall; have r11 := hI.val 11 _ 7 rfl rfl (hall 11 (by decide)); have hb := hI.inv.1; have hsz := hI.sz; have hdf := hI.df; have f0 := hI.fix 0 (by kernel_rfl); have f5 := hI.fix 5 (by kernel_rfl); obtain ⟨T, D⟩ := a'; clear hI hall; simp only at hdf hsz; subst hdf; obtain ⟨x0, x1, x2, x3, x4, x5, x6, x7, x8, x9, x10, x11, x12, x13, x14, x15, x16, x17, x18, x19, x20, x21, x22, x23, x24, x25, x26, x27, x28, x29, x30, x31, x32, x33, x34, x35, x36, x37, x38, x39, x40, x41, x42, x43, x44, x45, x46, x47, x48, x49, x50, x51, x52, x53, rfl⟩ := arr54 T hsz; replace f0 : x0 = .slice A l.length c := f0; replace f5 : x5 = vm := f5; subst f0; subst f5; obtain ⟨gf, gs, gb, gc, r1, hF⟩ := r11; replace r1 : x7 = .pointer (some ⟨gf, 0, none⟩) := r1; subst r1; have hHd := hand_any w2 w' gf gs gb gc l.length 0 (fl0 l.length) bN hF hpos.out hlen; replace hHd := ZZ hHd; clear hsz hF hb; go_wp2_with fail; refine hHd.out.mono ?_; rintro e w3 ⟨rfl, hF, -⟩; replace hF := ZZ hF; clear hHd; go_wp2_with fail; go_loopw [36] (fun vi wr => StRel w2 l gf gs gb gc vi wr) (fun vi _ => l.length - (intOf vi).toNat); case atStart => exact ⟨0, _, by omega, rfl, hF.out, handF_le (fl0_le _) _ _ (by decide), rfl⟩
     case round =>
      obtain ⟨k, fl, hk, rfl, hF, hle, heq⟩ := hrel; by_cases hd : k < l.length
      · obtain ⟨x, hx⟩ : ∃ x, l[k]? = some x := ⟨_, GE hd⟩
        have b1 : ((k : Nat) : Int) < (l.length : Int) := by omega
        have b2 : decide (l.length ≤ k) = false := decide_eq_false (by omega); have b3 : (k : Int) ≤ 200 := by omega
        obtain ⟨ad, rfl, c0, c1, c2⟩ := (H0.out.step (hb2'.out.trans (hF.bel.mono hb2'.out.size))).cells k x hx; have al := (BR wr.heap.size wr).alloc (NR _) (.cells #[O Y x.o, O Y x.a, O Y x.b] 127); have hF1 := hF.step al; have hb4 := heap_alloc_last wr (.cells #[O Y x.o, O Y x.a, O Y x.b] 127); have y0 := bk hb4 0 (O Y x.o); have y1 := bk hb4 1 (O Y x.a); have y2 := bk hb4 2 (O Y x.b); replace heq := heq.trans (stacksF_cons hx fl); have hOn := ZZ (one_any w2 _ gf gs gb gc l.length k fl x x5 (matchP l) hF1 hAm.out (one_ok hl0.out hwo.out hx) (hle k)); have hle1 := ZZ (oneP_le (k := k) (x := x) (M := matchP l) hle); obtain ⟨er, fl1, hte⟩ : ∃ er fl1, oneP fl k x (matchP l) = (er, fl1) := ⟨_, _, rfl⟩
        rw [hte] at hOn heq hle1; replace heq := ZZ heq; replace hd := ZZ hd; clear hF hle al hF1 hb4 hx hte hk; go_wp2_with fail; refine hOn.out.mono ?_; rintro e w4 ⟨rfl, hF4⟩; replace hF4 := ZZ hF4; clear hOn y0 y1 y2 c0 c1 c2; by_cases he : er = 0
        · subst he; have heq2 := ZZ (heq.out.trans (if_pos rfl)); go_wp2_with fail; exact ⟨⟨k + 1, fl1, hd.out, by go_num, hF4.out, hle1.out, heq2.out⟩, by have := hd.out; simp [intOf]; omega⟩
        · have heq2 := ZZ (heq.out.trans (if_neg he)); have e1 : (er != 0) = true := bne_iff_ne.mpr he; replace he := ZZ he; go_wp2_with fail; refine bodyPost_ret (results_tmp2 rfl _ _ _) rfl ?_; exact ⟨_, by rw [hE.out, heq2.out]; rfl, hb2'.out.trans (hF4.out.bel.mono hb2'.out.size)⟩
      · have b1 : ¬ (((k : Nat) : Int) < (l.length : Int)) := by omega
        have hke : k = l.length := by omega
        subst hke; rw [List.drop_length, stacksF] at heq; have f0 := hF.fs; replace hF := ZZ hF; replace heq := ZZ heq; clear hk hd hle; go_wp2_with fail; refine bodyPost_ret (results_tmp2 rfl _ _ _) rfl ?_; exact ⟨⟨_, by rw [hE.out, heq.out]; rfl⟩, hb2'.out.trans (hF.out.bel.mono hb2'.out.size)⟩
 · have hE := ZZ (show stacksE l = wholeP l from if_neg hw0); generalize wholeP l = we at *; have f1 : (we != 0) = true := bne_iff_ne.mpr hw0; replace hw0 := ZZ hw0; go_enter Tryz.func59, Tryz.ntmps59; go_wp2_with fail; refine hW.out.mono ?_; rintro e w1 ⟨rfl, hb1⟩; replace hb1 := ZZ hb1; go_wp2_with fail; refine bodyPost_ret (results_tmp2 rfl _ _ _) rfl ?_; exact ⟨_, by rw [hE.out]; rfl, hb1.out⟩
end
def ovC : Int := 1048577
def addC (a b : Int) : Int := if ovC < a + b then ovC else a + b
def maxC (a b : Int) : Int := if a < b then b else a
def handD (d : List Int) (k : Nat) (n : Int) : List Int := d.set k (if d.getD k 0 = -1 then n else maxC (d.getD k 0) n)
theorem add_any (a b : Int) (w : World) (ha : -1 ≤ a ∧ a ≤ 1048577) (hb : -1 ≤ b ∧ b ≤ 1048577) : Calls Tryz.prog 112 #[O Y a, O Y b] w fun e w' => e = .returned (O Y (addC a b)) ∧ w' = w := by
 have e1 : wrap64 (a + b) = a + b := wrapIn (by omega); by_cases h : (1048577 : Int) < a + b
 · have hP := ZZ (show addC a b = 1048577 from if_pos h); obtain ⟨s, hs⟩ : ∃ s, a + b = s := ⟨_, rfl⟩
   rw [hs] at e1 h; have h2 : ¬ (s ≤ 1048577) := by omega
   go_enter Tryz.func112, Tryz.ntmps112; go_wp2_with fail; go_ret; exact ⟨by rw [hP.out]; rfl, rfl⟩
 · have hP := (show addC a b = a + b from if_neg h)
   obtain ⟨s, hs⟩ : ∃ s, a + b = s := ⟨_, rfl⟩
   rw [hs] at e1 h hP; replace hP := ZZ hP; have h2 : s ≤ 1048577 := by omega
   go_enter Tryz.func112, Tryz.ntmps112; go_wp2_with fail; go_ret; exact ⟨by rw [hP.out]; rfl, rfl⟩
theorem max72_any (a b : Int) (w : World) : Calls Tryz.prog 72 #[O Y a, O Y b] w fun e w' => e = .returned (O Y (maxC a b)) ∧ w' = w := by
 by_cases h : a < b
 · have hP := ZZ (show maxC a b = b from if_pos h); have h2 : ¬ (b ≤ a) := by omega
   go_enter Tryz.func72, Tryz.ntmps72; go_wp2_with fail; go_ret; exact ⟨by rw [hP.out]; rfl, rfl⟩
 · have hP := ZZ (show maxC a b = a from if_neg h); have h2 : b ≤ a := by omega
   go_enter Tryz.func72, Tryz.ntmps72; go_wp2_with fail; go_ret; exact ⟨by rw [hP.out]; rfl, rfl⟩
theorem max67_any (a b : Int) (w : World) : Calls Tryz.prog 67 #[O Y a, O Y b] w fun e w' => e = .returned (O Y (maxC a b)) ∧ w' = w := by
 by_cases h : a < b
 · have hP := ZZ (show maxC a b = b from if_pos h); have h2 : ¬ (b ≤ a) := by omega
   go_enter Tryz.func67, Tryz.ntmps67; go_wp2_with fail; go_ret; exact ⟨by rw [hP.out]; rfl, rfl⟩
 · have hP := ZZ (show maxC a b = a from if_neg h); have h2 : b ≤ a := by omega
   go_enter Tryz.func67, Tryz.ntmps67; go_wp2_with fail; go_ret; exact ⟨by rw [hP.out]; rfl, rfl⟩
section
structure WayAt (w W : World) (ga gd gf gc m fr : Nat) (vl vm : Value) (G : Nat) (d : List Int) : Prop where
 bel : Below w.heap.size w W
 a : W.heap[ga]? = some (.cells (arrI d) 3 (0, 0))
 s : W.heap[gd]? = some (.cells #[.slice (some ⟨ga, 0, none⟩) m m] 22 (0, 0))
 f : W.heap[gf]? = some (.cells #[O Y (fr : Int)] 3 (0, 0))
 c : W.heap[gc]? = some (.cells #[vl, vm, .func (.func G) #[] #[]] 160 (0, 0))
 ld : d.length = m
 ne : ga ≠ gf
 lo : w.heap.size ≤ ga ∧ w.heap.size ≤ gd ∧ w.heap.size ≤ gf ∧ w.heap.size ≤ gc
section
variable {w W : World} {ga gd gf gc m fr : Nat} {vl vm : Value} {G : Nat} {d : List Int}
theorem WayAt.step {W' : World} (h : WayAt w W ga gd gf gc m fr vl vm G d) (hb : Below W.heap.size W W') : WayAt w W' ga gd gf gc m fr vl vm G d := by
 have k := fun {g : Nat} {o : Obj} (e : W.heap[g]? = some o) => (hb.block g (ltA e)).trans e; exact ⟨h.bel.trans (hb.mono h.bel.size), k h.a, k h.s, k h.f, k h.c, h.ld, h.ne, h.lo⟩
theorem WayAt.put (h : WayAt w W ga gd gf gc m fr vl vm G d) (k : Nat) (x : Int) : WayAt w (W.setCell ⟨ga, k, none⟩ (O Y x)) ga gd gf gc m fr vl vm G (d.set k x) :=
 ⟨h.bel.setCell (by exact h.lo.1) _, by rw [← arrI_set]; exact blk_set h.a k _, (BH _ _ _ _ (by exact cells_ne h.s h.a (by decide))).trans h.s, (BH _ _ _ _ (by exact fun e => h.ne e.symm)).trans h.f, (BH _ _ _ _ (by exact cells_ne h.c h.a (by decide))).trans h.c, by simp [h.ld], h.ne, h.lo⟩
theorem WayAt.cd (h : WayAt w W ga gd gf gc m fr vl vm G d) (k : Nat) (hk : k < m) : W.cell? ⟨ga, k, none⟩ = some (O Y (d.getD k 0)) ∧ W.frozen? ⟨ga, k, none⟩ = false := ⟨(blk_cell h.a k).trans (arrI_get _ _ _ (getD_some _ (by rw [h.ld]; exact hk))), blk_frozen h.a k⟩
theorem WayAt.cs (h : WayAt w W ga gd gf gc m fr vl vm G d) : W.cell? ⟨gd, 0, none⟩ = some (.slice (some ⟨ga, 0, none⟩) m m) := (blk_cell h.s 0).trans rfl
theorem WayAt.cf (h : WayAt w W ga gd gf gc m fr vl vm G d) : W.cell? ⟨gf, 0, none⟩ = some (O Y (fr : Int)) := (blk_cell h.f 0).trans rfl
theorem WayAt.c0 (h : WayAt w W ga gd gf gc m fr vl vm G d) : W.cell? ⟨gc, 0, none⟩ = some vl := (blk_cell h.c 0).trans rfl
theorem WayAt.c1 (h : WayAt w W ga gd gf gc m fr vl vm G d) : W.cell? ⟨gc, 1, none⟩ = some vm := (blk_cell h.c 1).trans rfl
theorem WayAt.c2 (h : WayAt w W ga gd gf gc m fr vl vm G d) : W.cell? ⟨gc, 2, none⟩ = some (.func (.func G) #[] #[]) := (blk_cell h.c 2).trans rfl
end
theorem whand_any (w W : World) (ga gd gf gc m fr : Nat) (vl vm : Value) (G : Nat) (hG : G = 72 ∨ G = 67) (d : List Int) (k j : Nat) (n : Int) (h : WayAt w W ga gd gf gc m fr vl vm G d) (hk : k = fr + j) (hj : j < m) (hm : m ≤ 300) (hf : fr ≤ 300) : Calls Tryz.prog 111 #[O Y (k : Int), O Y n, .pointer (some ⟨gd, 0, none⟩), .pointer (some ⟨gf, 0, none⟩), .pointer (some ⟨gc, 0, none⟩)] W fun e w' => e = .returned (.tuple #[]) ∧ WayAt w w' ga gd gf gc m fr vl vm G (handD d j n) ∧ Keeps [ga] W w' := by
 have b1 : ((j : Nat) : Int) < (m : Int) := by omega
 have b2 : decide (m ≤ j) = false := decide_eq_false (by omega); have b3 : (j : Int) ≤ 300 := by omega
 have b4 : (k : Int) - (fr : Int) = (j : Int) := by omega
 have b5 : wrap64 (j : Int) = (j : Int) := wrapIn (by omega); have s0 := h.cs; have f0 := h.cf; have c2 := h.c2; obtain ⟨q0, q1⟩ := h.cd j hj; obtain ⟨old, ho⟩ : ∃ old, d.getD j 0 = old := ⟨_, rfl⟩
 rw [ho] at q0; replace hk := ZZ hk; replace hj := ZZ hj; by_cases h1 : old = -1
 · have hh := ZZ (show handD d j n = d.set j n by unfold handD; rw [ho, if_pos h1]); have e1 : (old != -1) = false := by rw [h1]; rfl
   have hF := ZZ (h.put j n); have hP := ZZ ((Keeps.refl [ga] W).setCell ga j (O Y n) (.inl (by simp))); replace h1 := ZZ h1; replace h := ZZ h; replace ho := ZZ ho; go_enter Tryz.func111, Tryz.ntmps111; go_wp2_with fail; go_end0; exact ⟨rfl, by rw [hh.out]; exact hF.out, hP.out⟩
 · have hh := ZZ (show handD d j n = d.set j (maxC old n) by unfold handD; rw [ho, if_neg h1]); have e1 : (old != -1) = true := bne_iff_ne.mpr h1; have hF := ZZ (h.put j (maxC old n)); have hP := ZZ ((Keeps.refl [ga] W).setCell ga j (O Y (maxC old n)) (.inl (by simp))); replace h1 := ZZ h1; replace h := ZZ h; replace ho := ZZ ho; rcases hG with rfl | rfl
   · have hM := ZZ (max72_any old n W); go_enter Tryz.func111, Tryz.ntmps111; go_wp2_with fail; refine hM.out.mono ?_; rintro e w1 ⟨rfl, rfl⟩; go_wp2_with fail; go_end0; exact ⟨rfl, by rw [hh.out]; exact hF.out, hP.out⟩
   · have hM := ZZ (max67_any old n W); go_enter Tryz.func111, Tryz.ntmps111; go_wp2_with fail; refine hM.out.mono ?_; rintro e w1 ⟨rfl, rfl⟩; go_wp2_with fail; go_end0; exact ⟨rfl, by rw [hh.out]; exact hF.out, hP.out⟩
end
def minC (s : Int) : Int := if ovC < s then ovC else s
def loopV (l : List I3) (M : List Int) (wv : Nat → Nat → Int) (at_ : Nat) : Int := if addC (wv (at_ + 1) (M.getD at_ 0).toNat) 1 = ovC then ovC else minC (1 + (l.getD at_ ⟨0, 0, 0⟩).a * addC (wv (at_ + 1) (M.getD at_ 0).toNat) 1)
def wact (M : List Int) (lv : Nat → Int) (fr i : Nat) (x : I3) (d : List Int) (had : Int) : List Int :=
 if x.o = 21 then handD d ((M.getD i 0).toNat + 1 - fr) (addC had (lv i)) else
 if x.o = 19 then handD d (i + 1 + x.a.toNat - fr) (addC had 1) else
 if x.o = 20 then handD (handD d (i + 1 + x.a.toNat - fr) (addC had 1)) (i + 1 - fr) (addC had 1) else
 handD d (i + 1 - fr) (addC had 1)
def wstep (l : List I3) (M : List Int) (lv : Nat → Int) (fr i : Nat) (d : List Int) : List Int :=
 if d.getD (i - fr) 0 = -1 then d else wact M lv fr i (l.getD i ⟨0, 0, 0⟩) d (d.getD (i - fr) 0)
def wrun (l : List I3) (M : List Int) (lv : Nat → Int) (fr : Nat) : Nat → Nat → List Int → List Int
 | 0, _, d => d
 | n + 1, i, d => wrun l M lv fr n (i + 1) (wstep l M lv fr i d)
def dI (n : Nat) : Nat → List Int
 | 0 => List.replicate (n + 1) 0
 | i + 1 => (dI n i).set (i + 1) (-1)
def wayV (l : List I3) (M : List Int) : Nat → Nat → Nat → Int
 | 0, _, _ => 0
 | f + 1, fr, up => (wrun l M (loopV l M (wayV l M f)) fr (up - fr) fr (dI (up - fr) (up - fr))).getD (up - fr) 0
def DOk (d : List Int) : Prop := ∀ p, -1 ≤ d.getD p 0 ∧ d.getD p 0 ≤ 1048577
theorem addC_bd1 {a b : Int} (ha : -1 ≤ a) (hb : -1 ≤ b) (h : 0 ≤ a ∨ 0 ≤ b) : -1 ≤ addC a b ∧ addC a b ≤ 1048577 := by unfold addC ovC; split <;> omega
theorem addC_bd0 {a b : Int} (ha : -1 ≤ a) (hb : 1 ≤ b) : 0 ≤ addC a b ∧ addC a b ≤ 1048577 := by unfold addC ovC; split <;> omega
theorem handD_ok {d : List Int} (h : DOk d) (k : Nat) {n : Int} (hn : -1 ≤ n ∧ n ≤ 1048577) : DOk (handD d k n) := by
 intro p; unfold handD; by_cases hk : k < d.length
 · rw [getD_set _ _ _ _ _ hk]; split
   · split
     · exact hn
     · have := h k; unfold maxC; split <;> omega
   · exact h p
 · rw [List.set_eq_of_length_le (by omega)]; exact h p
theorem loopV_bd (l : List I3) (M : List Int) (wv : Nat → Nat → Int) (at_ : Nat) (ha : 0 ≤ (l.getD at_ ⟨0, 0, 0⟩).a) (hw : -1 ≤ wv (at_ + 1) (M.getD at_ 0).toNat) : 1 ≤ loopV l M wv at_ ∧ loopV l M wv at_ ≤ 1048577 := by
 unfold loopV; have h1 := addC_bd0 (b := 1) hw (by omega); have h2 := Int.mul_nonneg ha h1.1; split
 · unfold ovC; omega
 · unfold minC ovC; split <;> omega
theorem dI_ok (n i : Nat) : DOk (dI n i) := by
 induction i with
 | zero =>
  intro p; unfold dI; rw [GD, List.getElem?_replicate]; split <;> simp
 | succ i ih =>
  intro p; rw [dI]; by_cases hk : i + 1 < (dI n i).length
  · rw [getD_set _ _ _ _ _ hk]; split
    · omega
    · exact ih p
  · rw [List.set_eq_of_length_le (by omega)]; exact ih p
theorem dI_len (n i : Nat) : (dI n i).length = n + 1 := by
 induction i with
 | zero => simp [dI]
 | succ i ih => rw [dI]; simp [ih]
def RegOk (l : List I3) (M : List Int) (fr up : Nat) : Prop := (fr = 0 ∧ up + 1 = l.length) ∨ ∃ h x, l[h]? = some x ∧ (openI x).isSome = true ∧ fr = h + 1 ∧ M.getD h 0 = (up : Int)
theorem openI_21 {x : I3} (h : x.o = 21 ∨ x.o = 23) : (openI x).isSome = true := by
 unfold openI; rcases h with h | h
 · rw [if_pos h]; rfl
 · rw [if_neg (by omega), if_pos h]; rfl
structure RegFact (l : List I3) (M : List Int) (fr up : Nat) : Prop where
 le : fr ≤ up
 lt : up < l.length
 lp : ∀ i x, fr ≤ i → i < up → l[i]? = some x → x.o = 21 → ∃ j : Nat, M.getD i 0 = (j : Int) ∧ i < j ∧ j < up ∧ RegOk l M (i + 1) j
 jp : ∀ i x, fr ≤ i → i < up → l[i]? = some x → x.o = 19 ∨ x.o = 20 → i + 1 + x.a.toNat ≤ up
theorem region {l : List I3} (hl : OkL l) (hw : WholeOk l) {fr up : Nat} (h : RegOk l (matchP l) fr up) : RegFact l (matchP l) fr up := by
 have hpos := hl.pos; rcases h with ⟨rfl, h2⟩ | ⟨h0, x0, hx0, ho0, rfl, hM⟩
 · refine ⟨by omega, by omega, fun i x _ hi hx ho => ?_, fun i x _ hi hx ho => ?_⟩
   · have hk := (GI.1 hx).1; rcases hw.sc.cl i hk x hx (openI_21 (.inl ho)) with ⟨r, hr, _⟩ | ⟨j, h3, h4, h5, _, _, h8⟩
     · cases hr
     · refine ⟨j, h5, h3, ?_, .inr ⟨i, x, hx, openI_21 (.inl ho), rfl, h5⟩⟩; have hend : ∃ y, l[up]? = some y := ⟨_, GE (by omega)⟩
       obtain ⟨y, hy⟩ := hend; have hy25 := (hw.fin up y hy).2 (by omega); by_cases e : j = up
       · exfalso; subst e; obtain ⟨y2, g1, g2⟩ := h8; rw [hy] at g1; injection g1 with g1
         subst g1; omega
       · omega
   · have := (hw.jmp i x hx ho).2.1; omega
 · have hk0 := (GI.1 hx0).1; rcases hw.sc.cl h0 hk0 x0 hx0 ho0 with ⟨r, hr, _⟩ | ⟨j, h3, h4, h5, h6, h7, _⟩
   · cases hr
   · have hj : j = up := by have := h5.symm.trans hM; omega
     subst hj; refine ⟨by omega, h4, fun i x hfi hi hx ho => ?_, fun i x hfi hi hx ho => ?_⟩
     · obtain ⟨j', q1, q2⟩ := h7 i x (by omega) hi hx (openI_21 (.inl ho)); have hk := (GI.1 hx).1; rcases hw.sc.cl i hk x hx (openI_21 (.inl ho)) with ⟨r, hr, _⟩ | ⟨j2, p3, p4, p5, _⟩
       · cases hr
       · have : j2 = j' := by have := p5.symm.trans q2; omega
         subst this; exact ⟨j2, p5, p3, q1, .inr ⟨i, x, hx, openI_21 (.inl ho), rfl, p5⟩⟩
     · obtain ⟨ha, hb, hc⟩ := hw.jmp i x hx ho; obtain ⟨h, e1, e2⟩ := h6 i (by omega) (by omega); rw [e1] at hc; rcases hw.sc.hom (i + 1 + x.a.toNat) hb with e3 | ⟨h', e3, e4, ⟨y, hy, hyo⟩, e5⟩
       · rw [show (⟨matchP l, homeP l, []⟩ : ScanS).H = homeP l from rfl, hc] at e3; omega
       · rw [show (⟨matchP l, homeP l, []⟩ : ScanS).H = homeP l from rfl, hc] at e3; have e6 : h' = h := by omega
         subst e6; rcases e5 with ⟨r, hr, _⟩ | ⟨j2, f1, f2⟩
         · cases hr
         · by_cases e7 : h' = h0
           · subst e7; have : j2 = j := by have := f1.symm.trans hM; omega
             omega
           · have hi' : h' < i := by
              rcases hw.sc.hom i (by omega) with g | ⟨g, g1, g2, _⟩
              · rw [e1] at g; omega
              · rw [e1] at g1; omega
             obtain ⟨j', q1, q2⟩ := h7 h' y (by omega) (by omega) hy hyo; have : j2 = j' := by have := f1.symm.trans q2; omega
             omega
theorem loop_bd {x : I3} (h : okI x = true) (ho : x.o = 21) : 1 ≤ x.a ∧ x.a ≤ 1000 := by
 unfold okI rightI at h; have hk : (kindOf x.o).args = 1 ∧ (kindOf x.o).low = 1 ∧ (kindOf x.o).high = 1000 := by
  rw [ho]; exact ⟨by decide, by decide, by decide⟩
 simp only [hk.1, hk.2.1, hk.2.2] at h; simp at h; omega
theorem wact_ok {M : List Int} {lv : Nat → Int} {fr i : Nat} {x : I3} {d : List Int} {had : Int} (h : DOk d) (hh : 0 ≤ had ∧ had ≤ 1048577) (hl : x.o = 21 → 0 ≤ lv i ∧ lv i ≤ 1048577) : DOk (wact M lv fr i x d had) := by
 have h1 := addC_bd1 (a := had) (b := 1) (by omega) (by omega) (.inl hh.1); unfold wact; split
 · rename_i h21; have := hl h21; exact handD_ok h _ (addC_bd1 (by omega) (by omega) (.inl hh.1))
 · split
   · exact handD_ok h _ h1
   · split
     · exact handD_ok (handD_ok h _ h1) _ h1
     · exact handD_ok h _ h1
theorem wstep_ok {l : List I3} {M : List Int} {lv : Nat → Int} {fr i : Nat} {d : List Int} (h : DOk d) (hl : (l.getD i ⟨0, 0, 0⟩).o = 21 → 0 ≤ lv i ∧ lv i ≤ 1048577) : DOk (wstep l M lv fr i d) := by
 unfold wstep; split
 · exact h
 · rename_i hn; have := h (i - fr); exact wact_ok h (by omega) hl
theorem wrun_ok {l : List I3} {M : List Int} {lv : Nat → Int} {fr : Nat} (hl : ∀ i, (l.getD i ⟨0, 0, 0⟩).o = 21 → 0 ≤ lv i ∧ lv i ≤ 1048577) : ∀ (n i : Nat) (d : List Int), DOk d → DOk (wrun l M lv fr n i d) := by
 intro n; induction n with
 | zero => intro i d h; exact h
 | succ n ih => intro i d h; rw [wrun]; exact ih _ _ (wstep_ok h (hl i))
theorem wayV_bd {l : List I3} (hl : OkL l) (M : List Int) : ∀ (f fr up : Nat), -1 ≤ wayV l M f fr up ∧ wayV l M f fr up ≤ 1048577 := by
 intro f; induction f with
 | zero => intro fr up; simp [wayV]
 | succ f ih =>
  intro fr up; rw [wayV]; exact wrun_ok (fun i hi => by
   have ha : 0 ≤ (l.getD i ⟨0, 0, 0⟩).a := by
    rw [GD] at hi ⊢; cases e : l[i]? with
    | none => simp
    | some x => rw [e] at hi; have := loop_bd (hl.all x (LM e)) hi; simp only [Option.getD_some]; omega
   have := loopV_bd l M (wayV l M f) i ha (ih _ _).1; omega) _ _ _ (dI_ok _ _) _
theorem loopV_bd' {l : List I3} (hl : OkL l) (M : List Int) (f i : Nat) (hi : (l.getD i ⟨0, 0, 0⟩).o = 21) : 0 ≤ loopV l M (wayV l M f) i ∧ loopV l M (wayV l M f) i ≤ 1048577 := by
 have ha : 0 ≤ (l.getD i ⟨0, 0, 0⟩).a := by
  rw [GD] at hi ⊢; cases e : l[i]? with
  | none => simp
  | some x => rw [e] at hi; have := loop_bd (hl.all x (LM e)) hi; simp only [Option.getD_some]; omega
 have := loopV_bd l M (wayV l M f) i ha (wayV_bd hl M f _ _).1; omega
def WayC (l : List I3) (G f : Nat) : Prop := ∀ (fr up : Nat) (w : World) (vl vm : Value), CodeAt w vl l → ArrAt w vm (matchP l) l.length → RegOk l (matchP l) fr up → up - fr < f → Calls Tryz.prog 68 #[.agg #[vl, vm, .func (.func G) #[] #[]], O Y (fr : Int), O Y (up : Int)] w fun e w' => e = .returned (O Y (wayV l (matchP l) f fr up)) ∧ Below w.heap.size w w'
theorem loop_any (l : List I3) (G f at_ j : Nat) (x : I3) (hW : WayC l G f) (hl : OkL l) (w : World) (vl vm : Value) (h : CodeAt w vl l) (hm : ArrAt w vm (matchP l) l.length) (hx : l[at_]? = some x) (ho : x.o = 21) (hM : (matchP l).getD at_ 0 = (j : Int)) (hr : RegOk l (matchP l) (at_ + 1) j) (hf : j - (at_ + 1) < f) : Calls Tryz.prog 113 #[.agg #[vl, vm, .func (.func G) #[] #[]], O Y (at_ : Int)] w fun e w' => e = .returned (O Y (loopV l (matchP l) (wayV l (matchP l) f) at_)) ∧ Below w.heap.size w w' := by
 obtain ⟨A, c, rfl, hc, _⟩ := id h; obtain ⟨gm, rfl, hml, -⟩ := id hm; have hlen := hl.le; have hk := (GI.1 hx).1; have b1 : ((at_ : Nat) : Int) < (l.length : Int) := by omega
 have b2 : decide (l.length ≤ at_) = false := decide_eq_false (by omega); have b3 : (at_ : Int) ≤ 200 := by omega
 have b4 : wrap64 ((at_ : Int) + 1) = (at_ : Int) + 1 := wrapIn (by omega); obtain ⟨W1, hW1⟩ : ∃ W1, w.alloc (.cells #[.slice A l.length c, .slice (some ⟨gm, 0, none⟩) l.length l.length, .func (.func G) #[] #[]] 160) = W1 := ⟨_, rfl⟩
 have al := (BR w.heap.size w).alloc (NR _) (.cells #[.slice A l.length c, .slice (some ⟨gm, 0, none⟩) l.length l.length, .func (.func G) #[] #[]] 160); have hbl := heap_alloc_last w (.cells #[.slice A l.length c, .slice (some ⟨gm, 0, none⟩) l.length l.length, .func (.func G) #[] #[]] 160); rw [hW1] at al hbl; have c0 := bk hbl 0 (.slice A l.length c); have c1 := bk hbl 1 (.slice (some ⟨gm, 0, none⟩) l.length l.length); have c2 := bk hbl 2 (.func (.func G) #[] #[]); have cm := (hm.step al).at at_ hk; rw [hM] at cm; have hC := hW (at_ + 1) j W1.drew _ _ (h.step al.drew) (hm.step al.drew) hr hf; rw [show ((at_ + 1 : Nat) : Int) = (at_ : Int) + 1 by omega] at hC; have hwb := wayV_bd hl (matchP l) f (at_ + 1) j; have hP := (show loopV l (matchP l) (wayV l (matchP l) f) at_ = if addC (wayV l (matchP l) f (at_ + 1) j) 1 = 1048577 then 1048577 else minC (1 + x.a * addC (wayV l (matchP l) f (at_ + 1) j) 1) by
  unfold loopV; rw [hM, Int.toNat_natCast, GD, hx]; rfl)
 have hib := addC_bd0 (a := wayV l (matchP l) f (at_ + 1) j) (b := 1) hwb.1 (by omega); generalize wayV l (matchP l) f (at_ + 1) j = wv at *; obtain ⟨iv, hiv⟩ : ∃ iv, addC wv 1 = iv := ⟨_, rfl⟩
 rw [hiv] at hP hib; have hab := loop_bd (hl.all x (LM hx)) ho; obtain ⟨ad, rfl, -, a1, -⟩ := (h.step al.drew).cells at_ x hx; have H1 := ZZ ((h.step al.drew)); have hB := ZZ al.drew; have hbd := hbl; replace hC := ZZ hC; replace hwb := ZZ hwb; replace hP := ZZ hP; replace hib := ZZ hib; replace hab := ZZ hab; clear hW hl hm h al hM hr hf hx ho hbl; go_enter Tryz.func113, Tryz.ntmps113; go_wp2_with fail; refine st 11 (S := fun w' => w'.cell? ⟨w.heap.size, 0, none⟩ = some (.slice (some ad) l.length c) ∧ w'.cell? ⟨w.heap.size, 1, none⟩ = some (.slice (some ⟨gm, 0, none⟩) l.length l.length) ∧ w'.cell? ⟨w.heap.size, 2, none⟩ = some (.func (.func G) #[] #[]) ∧ w'.cell? ⟨gm, at_, none⟩ = some (O Y (j : Int))) (ds := [8, 9]) ⟨c0, c1, c2, cm⟩ (fun hHeld => ?_); generalize W1.drew = u0 at *; refine pq 1 ?_; refine pq 2 ?_ (v := O Y ((at_ : Int) + 1)) (hy := by intro w'; go_simp; all_goals simp only [i64_w, b4]); refine pq 3 ?_; refine pq 5 ?_; refine tk 0 hHeld ?_; refine tk 4 hHeld ?_; refine pq 6 ?_; refine tk 7 hHeld ?_; refine rg2 8 (fun K hK => ?_); refine goes_ Tryz.func68 (by kernel_rfl) rfl #[_, _, _] (by rfl) rfl rfl (by (try simp only [MA, List.map_cons, List.map_nil]); first | done | rfl) ?_; refine (hC.out).mono ?_; rintro e w2 ⟨rfl, hb2⟩; refine ⟨_, rfl, ?_⟩; refine hK.out _ _ ?_; clear hK K; refine nm ?_; refine rg2 9 (fun K hK => ?_); refine goes_ Tryz.func112 (by kernel_rfl) rfl #[_, _] (by rfl) rfl rfl (by (try simp only [MA, List.map_cons, List.map_nil]); first | done | rfl) ?_; refine ((add_any _ _ _ hwb.out (by decide))).mono ?_; rintro e w3 ⟨rfl, hw3⟩; refine ⟨_, rfl, ?_⟩; rw [hw3]; clear hw3; refine hK.out _ _ ?_; clear hK K; refine nm ?_; refine pq 10 ?_; refine dn ?_; rw [hiv]; have y0 := cell_keep hb2 (NR _) hHeld.1; have y1 := cell_keep hb2 (NR _) a1; have hB2 := ZZ (hB.out.trans (hb2.mono hB.out.size)); clear hHeld a1 hb2 hC H1 hB c0 c1 c2 cm hbd hW1 b4; by_cases h1 : iv = 1048577
 · have e1 : (iv == 1048577) = true := beq_iff_eq.mpr h1; replace hP := ZZ (hP.out.trans (if_pos h1)); replace h1 := ZZ h1; go_wp2_with fail; go_ret; exact ⟨by rw [hP.out]; rfl, hB2.out⟩
 · have e1 : (iv == 1048577) = false := beq_eq_false_iff_ne.mpr h1; replace hP := ZZ (hP.out.trans (if_neg h1)); obtain ⟨pr, hpr⟩ : ∃ pr, x.a * iv = pr := ⟨_, rfl⟩
   have hpb : 0 ≤ pr ∧ pr ≤ 1048577000 := by
    have g1 := hab.out; have g2 := hib.out; have g3 := Int.mul_le_mul g1.2 g2.2 g2.1 (by omega); have g4 := Int.mul_nonneg (show 0 ≤ x.a by omega) g2.1; omega
   rw [hpr] at hP; have e2 : wrap64 (x.a * iv) = pr := by rw [hpr]; exact wrapIn (by omega)
   obtain ⟨sm, hsm⟩ : ∃ sm, 1 + pr = sm := ⟨_, rfl⟩
   rw [hsm] at hP; have e3 : wrap64 (1 + pr) = sm := by rw [hsm]; exact wrapIn (by omega)
   have e4 : wrap64 sm = sm := wrapIn (by omega); have e5 : wrap64 pr = pr := wrapIn (by omega); replace h1 := ZZ h1; by_cases h2 : ovC < sm
   · replace hP := ZZ (hP.out.trans (if_pos h2)); have h2' : ¬ (sm ≤ 1048577) := by unfold ovC at h2; omega
     replace h2 := ZZ h2; replace hpb := ZZ hpb; go_wp2_with fail; go_ret; exact ⟨by rw [hP.out]; rfl, hB2.out⟩
   · replace hP := ZZ (hP.out.trans (if_neg h2)); have h2' : sm ≤ 1048577 := by unfold ovC at h2; omega
     replace h2 := ZZ h2; replace hpb := ZZ hpb; go_wp2_with fail; go_ret; exact ⟨by rw [hP.out]; rfl, hB2.out⟩
section
def lvF (l : List I3) (f : Nat) : Nat → Int := loopV l (matchP l) (wayV l (matchP l) f)
def W1Rel (w : World) (ga gd gf gc n fr : Nat) (vl vm : Value) (G : Nat) (vi : Value) (wr : World) : Prop := ∃ i : Nat, i ≤ n ∧ vi = O Y i ∧ WayAt w wr ga gd gf gc (n + 1) fr vl vm G (dI n i)
def W2Rel (w : World) (l : List I3) (f ga gd gf gc n fr up : Nat) (vl vm : Value) (G : Nat) (vi : Value) (wr : World) : Prop := ∃ (i : Nat) (d : List Int), fr ≤ i ∧ i ≤ up ∧ vi = O Y i ∧ WayAt w wr ga gd gf gc (n + 1) fr vl vm G d ∧ DOk d ∧ wrun l (matchP l) (lvF l f) fr n fr (dI n n) = wrun l (matchP l) (lvF l f) fr (up - i) i d
theorem wrun_step {l : List I3} {M : List Int} {lv : Nat → Int} {fr up i : Nat} {d : List Int} (h : i < up) : wrun l M lv fr (up - i) i d = wrun l M lv fr (up - (i + 1)) (i + 1) (wstep l M lv fr i d) := by
 rw [show up - i = (up - (i + 1)) + 1 by omega, wrun]
def tlA (ga n : Nat) : Option Addr := if n = 0 then some ⟨ga, 0, none⟩ else some ⟨ga, 1, none⟩
theorem sl22 (ga n : Nat) (w : World) : (Instr.sliceAt 22 (.slice (some ⟨ga, 0, none⟩) (n + 1) (n + 1)) (some (O Y 1)) none none).run Tryz.prog w = .ok (.slice (tlA ga n) n n) w := by
 by_cases h : n = 0
 · subst h; go_simp; rfl
 · have h2 : ¬ ((n : Int) + 1 < 1) := by omega
   unfold tlA; rw [if_neg h]; go_simp
attribute [local go_sem high] sl22
theorem way_made (w : World) (n fr : Nat) (vl vm : Value) (G : Nat) : WayAt w ((((w.alloc (.cells #[vl, vm, .func (.func G) #[] #[]] 160)).alloc (.cells #[O Y (fr : Int)] 3)).alloc (.cells (arrI (List.replicate (n + 1) 0)) 3)).alloc (.cells #[.slice (some ⟨w.heap.size + 1 + 1, 0, none⟩) (n + 1) (n + 1)] 22)) (w.heap.size + 1 + 1) (w.heap.size + 1 + 1 + 1) (w.heap.size + 1) w.heap.size (n + 1) fr vl vm G (dI n 0) := by
 have a1 := (BR w.heap.size w).alloc (NR _) (.cells #[vl, vm, .func (.func G) #[] #[]] 160); have h1 := heap_alloc_last w (.cells #[vl, vm, .func (.func G) #[] #[]] 160); obtain ⟨w1, e1⟩ : ∃ w1, w.alloc (.cells #[vl, vm, .func (.func G) #[] #[]] 160) = w1 := ⟨_, rfl⟩
 have s1 : w1.heap.size = w.heap.size + 1 := by rw [← e1, World.size_alloc]
 rw [e1] at h1 a1 ⊢; have a2 := (BR w1.heap.size w1).alloc (NR _) (.cells #[O Y (fr : Int)] 3); have h2 := heap_alloc_last w1 (.cells #[O Y (fr : Int)] 3); obtain ⟨w2, e2⟩ : ∃ w2, w1.alloc (.cells #[O Y (fr : Int)] 3) = w2 := ⟨_, rfl⟩
 have s2 : w2.heap.size = w.heap.size + 1 + 1 := by rw [← e2, World.size_alloc, s1]
 rw [e2] at h2 a2 ⊢; have a3 := (BR w2.heap.size w2).alloc (NR _) (.cells (arrI (List.replicate (n + 1) 0)) 3); have h3 := heap_alloc_last w2 (.cells (arrI (List.replicate (n + 1) 0)) 3); obtain ⟨w3, e3⟩ : ∃ w3, w2.alloc (.cells (arrI (List.replicate (n + 1) 0)) 3) = w3 := ⟨_, rfl⟩
 have s3 : w3.heap.size = w.heap.size + 1 + 1 + 1 := by rw [← e3, World.size_alloc, s2]
 rw [e3] at h3 a3 ⊢; have a4 := (BR w3.heap.size w3).alloc (NR _) (.cells #[.slice (some ⟨w.heap.size + 1 + 1, 0, none⟩) (n + 1) (n + 1)] 22); have h4 := heap_alloc_last w3 (.cells #[.slice (some ⟨w.heap.size + 1 + 1, 0, none⟩) (n + 1) (n + 1)] 22); have q3 := (a4.block _ (ltA h3)).trans h3; have q2 := (a4.block _ (by have := (ltA h2); have := a3.size; omega)).trans ((a3.block _ (ltA h2)).trans h2); have q1 := (a4.block _ (by have := (ltA h1); have := a3.size; have := a2.size; omega)).trans ((a3.block _ (by have := (ltA h1); have := a2.size; omega)).trans ((a2.block _ (ltA h1)).trans h1)); rw [s1] at q2; rw [s2] at q3; rw [s3] at h4; refine ⟨a1.trans ((a2.mono (by omega)).trans ((a3.mono (by omega)).trans (a4.mono (by omega)))), q3, h4, q2, q1, dI_len n 0, by omega, by omega, by omega, by omega, by omega⟩
theorem wayV_eq (l : List I3) (f fr up n : Nat) (h : up - fr = n) : wayV l (matchP l) (f + 1) fr up = (wrun l (matchP l) (lvF l f) fr n fr (dI n n)).getD n 0 := by
 rw [wayV, h]; rfl
theorem way_step (l : List I3) (G f : Nat) (hG : G = 72 ∨ G = 67) (hl : OkL l) (hw : WholeOk l) (hW : WayC l G f) : WayC l G (f + 1) := by
 intro fr up w vl vm h hm hr hf; have hRF := region hl hw hr; obtain ⟨A, c, rfl, hc, _⟩ := id h; obtain ⟨gm, rfl, hml, -⟩ := id hm; have hlen := hl.le; have hpos := hl.pos; obtain ⟨ad, rfl, -⟩ := h.cells 0 _ (GE hpos); have hlt := hRF.lt; have hle := hRF.le; obtain ⟨n, hn⟩ : ∃ n, up - fr = n := ⟨_, rfl⟩
 have hn2 : n ≤ 200 := by omega
 have hP := ZZ (wayV_eq l f fr up n hn); have e0 : (up : Int) - (fr : Int) = (n : Int) := by omega
 have e1 : wrap64 (n : Int) = (n : Int) := wrapIn (by omega); have e2 : wrap64 ((n : Int) + 1) = (n : Int) + 1 := wrapIn (by omega); have mk := mk22 (n + 1) (by omega); rw [show ((n + 1 : Nat) : Int) = (n : Int) + 1 by omega] at mk; have hle2 : (n : Int) ≤ 200 := by omega
 replace hW := ZZ hW; replace hl := ZZ hl; replace hw := ZZ hw; replace hRF := ZZ hRF; replace hr := ZZ hr; replace hm := ZZ hm; replace h := ZZ h; replace hn := ZZ hn; replace hf := ZZ hf; replace hlt := ZZ hlt; replace hle := ZZ hle; clear hml; obtain ⟨gf, hgf⟩ : ∃ gf, w.heap.size + 1 = gf := ⟨_, rfl⟩
 obtain ⟨ga, hga⟩ : ∃ ga, w.heap.size + 1 + 1 = ga := ⟨_, rfl⟩
 obtain ⟨gd, hgd⟩ : ∃ gd, w.heap.size + 1 + 1 + 1 = gd := ⟨_, rfl⟩
 have hWA := way_made w n fr (.slice (some ad) l.length c) (.slice (some ⟨gm, 0, none⟩) l.length l.length) G; rw [hgd, hga, hgf] at hWA; obtain ⟨W4, hW4⟩ : ∃ W4, ((((w.alloc (.cells #[.slice (some ad) l.length c, .slice (some ⟨gm, 0, none⟩) l.length l.length, .func (.func G) #[] #[]] 160)).alloc (.cells #[O Y (fr : Int)] 3)).alloc (.cells (arrI (List.replicate (n + 1) 0)) 3)).alloc (.cells #[.slice (some ⟨ga, 0, none⟩) (n + 1) (n + 1)] 22)) = W4 := ⟨_, rfl⟩
 rw [hW4] at hWA; replace hWA := ZZ hWA; replace hW4 := ZZ hW4; replace hgd := ZZ hgd; replace hga := ZZ hga; replace hgf := ZZ hgf; go_enter Tryz.func68, Tryz.ntmps68; go_wp2_with fail; rw [hgd.out, hga.out, hgf.out, hW4.out]; clear hW4 hgd hga hgf mk; generalize tlA ga n = tA at *; go_loopw [21] (fun vi wr => W1Rel w ga gd gf w.heap.size n fr (.slice (some ad) l.length c) (.slice (some ⟨gm, 0, none⟩) l.length l.length) G vi wr) (fun vi _ => n - (intOf vi).toNat); case atStart => exact ⟨0, by omega, rfl, hWA.out⟩
 case round =>
  obtain ⟨n1, hi, rfl, hA⟩ := hrel; by_cases hd : n1 < n
  · have b1 : ((n1 : Nat) : Int) < (n : Int) := by omega
    have b2 : decide (n ≤ n1) = false := decide_eq_false (by omega); have b3 : (n1 : Int) ≤ 200 := by omega
    have s0 := hA.cs; obtain ⟨q0, q1⟩ := hA.cd (n1 + 1) (by omega); have hA2 := ZZ (hA.put (n1 + 1) (-1)); have b4 : wrap64 ((n1 : Int) + 1) = (n1 : Int) + 1 := wrapIn (by omega); replace hA := ZZ hA; replace hd := ZZ hd; generalize (dI n n1).getD (n1 + 1) 0 = old at *; go_wp2_with fail; exact ⟨⟨n1 + 1, hd.out, by go_num, hA2.out⟩, by have := hd.out; simp [intOf]; omega⟩
  · have b1 : ¬ (((n1 : Nat) : Int) < (n : Int)) := by omega
    have hie : n1 = n := by omega
    subst hie; have f0 := hA.cf; replace hA := ZZ hA; clear hi hd hWA; go_wp2_with fail; replace hA := hA.out; clear e1 e2 e0; go_loopw [10] (fun vi wr => W2Rel w l f ga gd gf w.heap.size n1 fr up (.slice (some ad) l.length c) (.slice (some ⟨gm, 0, none⟩) l.length l.length) G vi wr) (fun vi _ => up - (intOf vi).toNat); case atStart => exact ⟨fr, dI n1 n1, NR _, hle.out, rfl, hA, dI_ok _ _, by rw [hn.out]⟩
    case round =>
     obtain ⟨i, d, hfi, hiu, rfl, hA, hD, heq⟩ := hrel; have hup := hlt.out; have hnn := hn.out; have u1 : (i : Int) ≤ 200 := by omega
     by_cases hd : i < up
     · obtain ⟨k, hk⟩ : ∃ k, i - fr = k := ⟨_, rfl⟩
       have b1 : ((i : Nat) : Int) < (up : Int) := by omega
       have b3 : (i : Int) - (fr : Int) = (k : Int) := by omega
       have b5 : ((k : Nat) : Int) < (n1 : Int) + 1 := by omega
       have b6 : decide (n1 + 1 ≤ k) = false := decide_eq_false (by omega); have b8 : (k : Int) ≤ 200 := by omega
       have s0 := hA.cs; have f0 := hA.cf; obtain ⟨q0, -⟩ := hA.cd k (by omega); have hhb := hD k; obtain ⟨had, hha⟩ : ∃ had, d.getD k 0 = had := ⟨_, rfl⟩
       rw [hha] at q0 hhb; replace heq := heq.trans (wrun_step hd); unfold wstep at heq; rw [hk, hha] at heq; by_cases h1 : had = -1
       · rw [if_pos h1] at heq; have g1 : (had == -1) = true := beq_iff_eq.mpr h1; replace heq := ZZ heq; replace h1 := ZZ h1; replace hA := ZZ hA; replace hha := ZZ hha; replace hk := ZZ hk; replace hup := ZZ hup; replace hnn := ZZ hnn; replace hhb := ZZ hhb; have b4 : wrap64 (k : Int) = (k : Int) := wrapIn (by omega); have b7 : wrap64 ((i : Int) + 1) = (i : Int) + 1 := wrapIn (by omega); go_wp2_with fail; clear b4 b7; exact ⟨⟨i + 1, d, by omega, hd, by go_num, hA.out, hD, heq.out⟩, by simp [intOf]; omega⟩
       · rw [if_neg h1] at heq; have g1 : (had == -1) = false := beq_eq_false_iff_ne.mpr h1; replace hhb : 0 ≤ had ∧ had ≤ 1048577 := by omega
         obtain ⟨x, hx⟩ : ∃ x, l[i]? = some x := ⟨_, GE (by omega)⟩
         rw [GD, hx, Option.getD_some] at heq; obtain ⟨ad2, hA2, c0, c1, c2⟩ := (h.out.step hA.bel).cells i x hx; injection hA2 with hA2
         subst hA2; have d1 : ((i : Nat) : Int) < (l.length : Int) := by omega
         have d2 : decide (l.length ≤ i) = false := decide_eq_false (by omega); have z0 := hA.c0; have al := (BR wr.heap.size wr).alloc (NR _) (.cells #[O Y x.o, O Y x.a, O Y x.b] 127); have hX : XAt (wr.alloc (.cells #[O Y x.o, O Y x.a, O Y x.b] 127)) wr.heap.size x := ⟨heap_alloc_last wr _⟩
         have hA1 := hA.step al; have y0 := bk hX.blk 0 (O Y x.o); have y1 := bk hX.blk 1 (O Y x.a); obtain ⟨W1, hW1⟩ : ∃ W1, wr.alloc (.cells #[O Y x.o, O Y x.a, O Y x.b] 127) = W1 := ⟨_, rfl⟩
         rw [hW1] at hA1 hX y0 y1; have hok := hl.out.all x (LM hx); have hlv := loopV_bd' hl.out (matchP l) f i; rw [GD, hx, Option.getD_some] at hlv; replace hlv : x.o = 21 → 0 ≤ lvF l f i ∧ lvF l f i ≤ 1048577 := hlv; have hDw := wact_ok (M := matchP l) (lv := lvF l f) (fr := fr) (i := i) (x := x) hD hhb hlv; clear hA al hD; replace hX := ZZ hX; by_cases h21 : x.o = 21
         · obtain ⟨j, hMj, hij, hju, hreg⟩ := hRF.out.lp i x hfi hd hx h21; have g2 : (x.o == 21) = true := beq_iff_eq.mpr h21; obtain ⟨q, hq⟩ : ∃ q, j + 1 - fr = q := ⟨_, rfl⟩
           have hAu := hA1.step (BR _ _).drew; have hCu := h.out.step hAu.bel; have hMu := hm.out.step hAu.bel; have hLo := ZZ (loop_any l G f i j x hW.out hl.out W1.drew _ _ hCu hMu hx h21 hMj hreg (by have := hf.out; omega)); have cm := hMu.at i (by omega); rw [hMj] at cm; have t0 := hA1.c0; have t1 := hA1.c1; have t2 := hA1.c2; have hw1 : wact (matchP l) (lvF l f) fr i x d had = handD d q (addC had (lvF l f i)) := by
            unfold wact; rw [if_pos h21, hMj, Int.toNat_natCast, hq]
           rw [hw1] at heq hDw; have hhl := ZZ (hlv h21); obtain ⟨lvi, hlvi⟩ : ∃ lvi, lvF l f i = lvi := ⟨_, rfl⟩
           rw [hlvi] at heq hDw hhl; replace hLo : Hid (Calls Tryz.prog 113 #[.agg #[.slice (some ad) l.length c, .slice (some ⟨gm, 0, none⟩) l.length l.length, .func (.func G) #[] #[]], O Y (i : Int)] W1.drew (fun e w' => e = .returned (O Y lvi) ∧ Below W1.drew.heap.size W1.drew w')) := by rw [← hlvi]; exact hLo
           have hAc : ∀ (w2 : World), WayAt w w2 ga gd gf w.heap.size (n1 + 1) fr (.slice (some ad) l.length c) (.slice (some ⟨gm, 0, none⟩) l.length l.length) G d → Calls Tryz.prog 111 #[O Y ((j : Int) + 1), O Y (addC had lvi), .pointer (some ⟨gd, 0, none⟩), .pointer (some ⟨gf, 0, none⟩), .pointer (some ⟨w.heap.size, 0, none⟩)] w2 fun e w' => e = .returned (.tuple #[]) ∧ WayAt w w' ga gd gf w.heap.size (n1 + 1) fr (.slice (some ad) l.length c) (.slice (some ⟨gm, 0, none⟩) l.length l.length) G (handD d q (addC had lvi)) ∧ Keeps [ga] w2 w' := fun w2 h2 => by
            have := whand_any w w2 ga gd gf w.heap.size (n1 + 1) fr _ _ G hG d (j + 1) q (addC had lvi) h2 (by omega) (by omega) (by omega) (by omega); rw [show ((j + 1 : Nat) : Int) = (j : Int) + 1 by omega] at this; exact this
           have hj9 : (j : Int) ≤ 200 := by omega
           have hij' := ZZ hij; replace hAc := ZZ hAc; replace heq := ZZ heq; replace hDw := ZZ hDw; clear hij hju hreg hMj hCu hMu hw1 hlvi hlv hx hok hq h21; replace hhb := ZZ hhb; replace hha := ZZ hha; replace hk := ZZ hk; replace hup := ZZ hup; replace hnn := ZZ hnn; replace h1 := ZZ h1; have b4 : wrap64 (k : Int) = (k : Int) := wrapIn (by omega); have b9 : wrap64 ((j : Int) + 1) = (j : Int) + 1 := wrapIn (by omega); go_wp2_with fail; refine st 13 (S := fun w' => w'.cell? ⟨w.heap.size, 0, none⟩ = some (.slice (some ad) l.length c) ∧ w'.cell? ⟨w.heap.size, 1, none⟩ = some (.slice (some ⟨gm, 0, none⟩) l.length l.length) ∧ w'.cell? ⟨w.heap.size, 2, none⟩ = some (.func (.func G) #[] #[]) ∧ w'.cell? ⟨gm, i, none⟩ = some (O Y (j : Int))) (ds := [12]) ⟨t0, t1, t2, cm⟩ (fun hHeld => ?_); generalize W1.drew = u0 at *; refine pq 0 ?_; refine pq 1 ?_; refine pq 3 ?_; refine pq 7 ?_; refine pq 9 ?_; refine tk 2 hHeld ?_; refine pq 4 ?_; refine tk 5 hHeld ?_; refine pq 6 ?_ (v := O Y ((j : Int) + 1)) (hy := by intro w'; go_simp; all_goals simp only [i64_w, b9]); refine tk 8 hHeld ?_; refine rg1 10 (fun K hK => ?_); refine goes_ Tryz.func113 (by kernel_rfl) rfl #[_, _] (by rfl) rfl rfl (by (try simp only [MA, List.map_cons, List.map_nil]); first | done | rfl) ?_; refine (hLo.out).mono ?_; rintro e w2 ⟨rfl, hb2⟩; refine ⟨_, rfl, ?_⟩; have hA2 := hAu.step hb2; refine hK.out _ _ ⟨cell_keep hb2 (NR _) hHeld.1, cell_keep hb2 (NR _) hHeld.2.1, cell_keep hb2 (NR _) hHeld.2.2.1, cell_keep hb2 (NR _) hHeld.2.2.2⟩ (fun hHeld => ?_); clear hK K; refine nm ?_; refine rg1 11 (fun K hK => ?_); refine goes_ Tryz.func112 (by kernel_rfl) rfl #[_, _] (by rfl) rfl rfl (by (try simp only [MA, List.map_cons, List.map_nil]); first | done | rfl) ?_; refine ((add_any _ _ _ (by have := hhb.out; omega) (by have := hhl.out; omega))).mono ?_; rintro e w3 ⟨rfl, hw3⟩; refine ⟨_, rfl, ?_⟩; rw [hw3]; clear hw3 w3; refine hK.out _ _ hHeld (fun hHeld => ?_); clear hK K; refine nm ?_; refine rg2 12 (fun K hK => ?_); refine call_ 111 #[O Y ((j : Int) + 1), O Y (addC had lvi), .pointer (some ⟨gd, 0, none⟩), .pointer (some ⟨gf, 0, none⟩), .pointer (some ⟨w.heap.size, 0, none⟩)] (by rfl) rfl ?_ ?_
           · have he := fun xs w => enters_ (P := Tryz.prog) (f := 111) Tryz.func111 rfl rfl xs w; unfold execOp; simp [resolve, Deferred.ofValue, invoke, Act.eval, he]
           refine (hAc.out _ hA2).mono ?_; rintro e w5 ⟨rfl, hA5, -⟩; refine ⟨_, rfl, ?_⟩; refine hK.out _ _ ?_; clear hK K; refine nm ?_; refine dn ?_; clear b4 b9 hHeld hAu; replace hA5 := ZZ hA5; go_wp2_with fail; exact ⟨⟨i + 1, _, by omega, hd, by go_num, hA5.out, hDw.out, heq.out⟩, by simp [intOf]; omega⟩
         · have g2 : (x.o == 21) = false := beq_eq_false_iff_ne.mpr h21; by_cases h19 : x.o = 19
           · have g3 : (x.o == 19) = true := beq_iff_eq.mpr h19; have hab := jump_bd hok (.inl h19); obtain ⟨q, hq⟩ : ∃ q : Nat, x.a = (q : Int) := ⟨x.a.toNat, by omega⟩
             have hjp := hRF.out.jp i x hfi hd hx (.inl h19); rw [hq, Int.toNat_natCast] at hjp; obtain ⟨r, hr2⟩ : ∃ r, i + 1 + q - fr = r := ⟨_, rfl⟩
             have hq9 : (q : Int) ≤ 200 := by omega
             have y2 : W1.drew.cell? ⟨wr.heap.size, 1, none⟩ = some (O Y (q : Int)) := by rw [← hq]; exact y1
             have hw1 : wact (matchP l) (lvF l f) fr i x d had = handD d r (addC had 1) := by
              unfold wact; rw [if_neg h21, if_pos h19, hq, Int.toNat_natCast, hr2]
             rw [hw1] at heq hDw; have hAc : ∀ (w2 : World), WayAt w w2 ga gd gf w.heap.size (n1 + 1) fr (.slice (some ad) l.length c) (.slice (some ⟨gm, 0, none⟩) l.length l.length) G (d) → Calls Tryz.prog 111 #[O Y ((i : Int) + 1 + (q : Int)), O Y (addC had 1), .pointer (some ⟨gd, 0, none⟩), .pointer (some ⟨gf, 0, none⟩), .pointer (some ⟨w.heap.size, 0, none⟩)] w2 fun e w' => e = .returned (.tuple #[]) ∧ WayAt w w' ga gd gf w.heap.size (n1 + 1) fr (.slice (some ad) l.length c) (.slice (some ⟨gm, 0, none⟩) l.length l.length) G (handD (d) r (addC had 1)) ∧ Keeps [ga] w2 w' := fun w2 h2 => by
              have := whand_any w w2 ga gd gf w.heap.size (n1 + 1) fr _ _ G hG (d) (i + 1 + q) r (addC had 1) h2 (by omega) (by omega) (by omega) (by omega); rw [show ((i + 1 + q : Nat) : Int) = (i : Int) + 1 + (q : Int) by omega] at this; exact this
             have hAu := hA1.step (BR _ _).drew; rw [hq] at hW1 c1 y1; replace hAc := ZZ hAc; clear hw1 hlv hx hok hab hq hjp hr2; replace h21 := ZZ h21; replace h19 := ZZ h19; replace heq := ZZ heq; replace hDw := ZZ hDw; replace hhb := ZZ hhb; replace hha := ZZ hha; replace hk := ZZ hk; replace hup := ZZ hup; replace hnn := ZZ hnn; replace h1 := ZZ h1; have b4 : wrap64 (k : Int) = (k : Int) := wrapIn (by omega); have b9 : wrap64 ((i : Int) + 1) = (i : Int) + 1 := wrapIn (by omega); have b10 : wrap64 ((i : Int) + 1 + (q : Int)) = (i : Int) + 1 + (q : Int) := wrapIn (by clear b9 b4; omega); go_wp2_with fail; refine st 9 (S := fun w' => w'.cell? ⟨wr.heap.size, 1, none⟩ = some (O Y (q : Int))) (ds := [8]) y2 (fun hHeld => ?_); generalize W1.drew = u0 at *; refine pq 0 ?_; refine pq 1 ?_; refine pq 2 ?_ (v := O Y ((i : Int) + 1)) (hy := by intro w'; go_simp; all_goals simp only [i64_w, b9]); refine pq 3 ?_; refine pq 6 ?_; refine tk 4 hHeld ?_; refine pq 5 ?_ (v := O Y ((i : Int) + 1 + (q : Int))) (hy := by intro w'; go_simp; all_goals simp only [i64_w, b10]); refine rg1 7 (fun K hK => ?_); refine goes_ Tryz.func112 (by kernel_rfl) rfl #[_, _] (by rfl) rfl rfl (by (try simp only [MA, List.map_cons, List.map_nil]); first | done | rfl) ?_; refine ((add_any _ _ _ (by have := hhb.out; omega) (by decide))).mono ?_; rintro e w3 ⟨rfl, hw3⟩; refine ⟨_, rfl, ?_⟩; rw [hw3]; clear hw3 w3; refine hK.out _ _ hHeld (fun hHeld => ?_); clear hK K; refine nm ?_; refine rg2 8 (fun K hK => ?_); refine call_ 111 #[O Y ((i : Int) + 1 + (q : Int)), O Y (addC had 1), .pointer (some ⟨gd, 0, none⟩), .pointer (some ⟨gf, 0, none⟩), .pointer (some ⟨w.heap.size, 0, none⟩)] (by rfl) rfl ?_ ?_
             · have he := fun xs w => enters_ (P := Tryz.prog) (f := 111) Tryz.func111 rfl rfl xs w; unfold execOp; simp [resolve, Deferred.ofValue, invoke, Act.eval, he]
             refine (hAc.out _ hAu).mono ?_; rintro e w5 ⟨rfl, hA5, -⟩; refine ⟨_, rfl, ?_⟩; refine hK.out _ _ ?_; clear hK K; refine nm ?_; refine dn ?_; clear b4 b9 b10 hHeld hAu y0 y1 y2; replace hA5 := ZZ hA5; go_wp2_with fail; exact ⟨⟨i + 1, _, by omega, hd, by go_num, hA5.out, hDw.out, heq.out⟩, by simp [intOf]; omega⟩
           · have g3 : (x.o == 19) = false := beq_eq_false_iff_ne.mpr h19; by_cases h20 : x.o = 20
             · have g4 : (x.o == 20) = true := beq_iff_eq.mpr h20; have hab := jump_bd hok (.inr h20); obtain ⟨q, hq⟩ : ∃ q : Nat, x.a = (q : Int) := ⟨x.a.toNat, by omega⟩
               have hjp := hRF.out.jp i x hfi hd hx (.inr h20); rw [hq, Int.toNat_natCast] at hjp; obtain ⟨r, hr2⟩ : ∃ r, i + 1 + q - fr = r := ⟨_, rfl⟩
               have hq9 : (q : Int) ≤ 200 := by omega
               have y2 : W1.drew.cell? ⟨wr.heap.size, 1, none⟩ = some (O Y (q : Int)) := by rw [← hq]; exact y1
               obtain ⟨r3, hr3⟩ : ∃ r3, i + 1 - fr = r3 := ⟨_, rfl⟩
               have hw1 : wact (matchP l) (lvF l f) fr i x d had = handD (handD d r (addC had 1)) r3 (addC had 1) := by
                unfold wact; rw [if_neg h21, if_neg h19, if_pos h20, hq, Int.toNat_natCast, hr2, hr3]
               rw [hw1] at heq hDw; have hAc : ∀ (w2 : World), WayAt w w2 ga gd gf w.heap.size (n1 + 1) fr (.slice (some ad) l.length c) (.slice (some ⟨gm, 0, none⟩) l.length l.length) G (d) → Calls Tryz.prog 111 #[O Y ((i : Int) + 1 + (q : Int)), O Y (addC had 1), .pointer (some ⟨gd, 0, none⟩), .pointer (some ⟨gf, 0, none⟩), .pointer (some ⟨w.heap.size, 0, none⟩)] w2 fun e w' => e = .returned (.tuple #[]) ∧ WayAt w w' ga gd gf w.heap.size (n1 + 1) fr (.slice (some ad) l.length c) (.slice (some ⟨gm, 0, none⟩) l.length l.length) G (handD (d) r (addC had 1)) ∧ Keeps [ga] w2 w' := fun w2 h2 => by
                have := whand_any w w2 ga gd gf w.heap.size (n1 + 1) fr _ _ G hG (d) (i + 1 + q) r (addC had 1) h2 (by omega) (by omega) (by omega) (by omega); rw [show ((i + 1 + q : Nat) : Int) = (i : Int) + 1 + (q : Int) by omega] at this; exact this
               have hAd : ∀ (w2 : World), WayAt w w2 ga gd gf w.heap.size (n1 + 1) fr (.slice (some ad) l.length c) (.slice (some ⟨gm, 0, none⟩) l.length l.length) G (handD d r (addC had 1)) → Calls Tryz.prog 111 #[O Y ((i : Int) + 1), O Y (addC had 1), .pointer (some ⟨gd, 0, none⟩), .pointer (some ⟨gf, 0, none⟩), .pointer (some ⟨w.heap.size, 0, none⟩)] w2 fun e w' => e = .returned (.tuple #[]) ∧ WayAt w w' ga gd gf w.heap.size (n1 + 1) fr (.slice (some ad) l.length c) (.slice (some ⟨gm, 0, none⟩) l.length l.length) G (handD (handD d r (addC had 1)) r3 (addC had 1)) ∧ Keeps [ga] w2 w' := fun w2 h2 => by
                have := whand_any w w2 ga gd gf w.heap.size (n1 + 1) fr _ _ G hG (handD d r (addC had 1)) (i + 1) r3 (addC had 1) h2 (by omega) (by omega) (by omega) (by omega); rw [show ((i + 1 : Nat) : Int) = (i : Int) + 1 by omega] at this; exact this
               have hAu := hA1.step (BR _ _).drew; rw [hq] at hW1 c1 y1; replace hAc := ZZ hAc; replace hAd := ZZ hAd; clear hw1 hlv hx hok hab hq hjp hr2 hr3; replace h21 := ZZ h21; replace h19 := ZZ h19; replace h20 := ZZ h20; replace heq := ZZ heq; replace hDw := ZZ hDw; replace hhb := ZZ hhb; replace hha := ZZ hha; replace hk := ZZ hk; replace hup := ZZ hup; replace hnn := ZZ hnn; replace h1 := ZZ h1; have b4 : wrap64 (k : Int) = (k : Int) := wrapIn (by omega); have b9 : wrap64 ((i : Int) + 1) = (i : Int) + 1 := wrapIn (by omega); have b10 : wrap64 ((i : Int) + 1 + (q : Int)) = (i : Int) + 1 + (q : Int) := wrapIn (by clear b9 b4; omega); go_wp2_with fail; refine st 9 (S := fun w' => w'.cell? ⟨wr.heap.size, 1, none⟩ = some (O Y (q : Int))) (ds := [8]) y2 (fun hHeld => ?_); generalize W1.drew = u0 at *; refine pq 0 ?_; refine pq 1 ?_; refine pq 2 ?_ (v := O Y ((i : Int) + 1)) (hy := by intro w'; go_simp; all_goals simp only [i64_w, b9]); refine pq 3 ?_; refine pq 6 ?_; refine tk 4 hHeld ?_; refine pq 5 ?_ (v := O Y ((i : Int) + 1 + (q : Int))) (hy := by intro w'; go_simp; all_goals simp only [i64_w, b10]); refine rg1 7 (fun K hK => ?_); refine goes_ Tryz.func112 (by kernel_rfl) rfl #[_, _] (by rfl) rfl rfl (by (try simp only [MA, List.map_cons, List.map_nil]); first | done | rfl) ?_; refine ((add_any _ _ _ (by have := hhb.out; omega) (by decide))).mono ?_; rintro e w3 ⟨rfl, hw3⟩; refine ⟨_, rfl, ?_⟩; rw [hw3]; clear hw3 w3; refine hK.out _ _ hHeld (fun hHeld => ?_); clear hK K; refine nm ?_; refine rg2 8 (fun K hK => ?_); refine call_ 111 #[O Y ((i : Int) + 1 + (q : Int)), O Y (addC had 1), .pointer (some ⟨gd, 0, none⟩), .pointer (some ⟨gf, 0, none⟩), .pointer (some ⟨w.heap.size, 0, none⟩)] (by rfl) rfl ?_ ?_
               · have he := fun xs w => enters_ (P := Tryz.prog) (f := 111) Tryz.func111 rfl rfl xs w; unfold execOp; simp [resolve, Deferred.ofValue, invoke, Act.eval, he]
               refine (hAc.out _ hAu).mono ?_; rintro e w5 ⟨rfl, hA5, -⟩; refine ⟨_, rfl, ?_⟩; refine hK.out _ _ ?_; clear hK K; refine nm ?_; refine dn ?_; clear b4 b10 hHeld hAu y0 y1 y2; replace hA5 := ZZ hA5; go_wp2_with fail; refine (add_any _ _ _ (by have := hhb.out; omega) (by decide)).mono ?_; rintro e w6 ⟨rfl, hw6⟩; rw [hw6]; clear hw6 w6; go_wp2_with fail; refine (hAd.out _ hA5.out).mono ?_; rintro e w7 ⟨rfl, hA7, -⟩; replace hA7 := ZZ hA7; clear b9; go_wp2_with fail; exact ⟨⟨i + 1, _, by omega, hd, by go_num, hA7.out, hDw.out, heq.out⟩, by simp [intOf]; omega⟩
             · have g4 : (x.o == 20) = false := beq_eq_false_iff_ne.mpr h20; obtain ⟨r3, hr3⟩ : ∃ r3, i + 1 - fr = r3 := ⟨_, rfl⟩
               have hw1 : wact (matchP l) (lvF l f) fr i x d had = handD d r3 (addC had 1) := by
                unfold wact; rw [if_neg h21, if_neg h19, if_neg h20, hr3]
               rw [hw1] at heq hDw; have hAd : ∀ (w2 : World), WayAt w w2 ga gd gf w.heap.size (n1 + 1) fr (.slice (some ad) l.length c) (.slice (some ⟨gm, 0, none⟩) l.length l.length) G (d) → Calls Tryz.prog 111 #[O Y ((i : Int) + 1), O Y (addC had 1), .pointer (some ⟨gd, 0, none⟩), .pointer (some ⟨gf, 0, none⟩), .pointer (some ⟨w.heap.size, 0, none⟩)] w2 fun e w' => e = .returned (.tuple #[]) ∧ WayAt w w' ga gd gf w.heap.size (n1 + 1) fr (.slice (some ad) l.length c) (.slice (some ⟨gm, 0, none⟩) l.length l.length) G (handD (d) r3 (addC had 1)) ∧ Keeps [ga] w2 w' := fun w2 h2 => by
                have := whand_any w w2 ga gd gf w.heap.size (n1 + 1) fr _ _ G hG (d) (i + 1) r3 (addC had 1) h2 (by omega) (by omega) (by omega) (by omega); rw [show ((i + 1 : Nat) : Int) = (i : Int) + 1 by omega] at this; exact this
               replace hAd := ZZ hAd; clear hw1 hlv hx hok hr3; replace h21 := ZZ h21; replace h19 := ZZ h19; replace h20 := ZZ h20; replace heq := ZZ heq; replace hDw := ZZ hDw; replace hhb := ZZ hhb; replace hha := ZZ hha; replace hk := ZZ hk; replace hup := ZZ hup; replace hnn := ZZ hnn; replace h1 := ZZ h1; have b4 : wrap64 (k : Int) = (k : Int) := wrapIn (by omega); have b9 : wrap64 ((i : Int) + 1) = (i : Int) + 1 := wrapIn (by omega); replace hA1 := ZZ hA1; go_wp2_with fail; refine (add_any _ _ _ (by have := hhb.out; omega) (by decide)).mono ?_; rintro e w6 ⟨rfl, hw6⟩; rw [hw6]; clear hw6 w6; go_wp2_with fail; refine (hAd.out _ hA1.out).mono ?_; rintro e w7 ⟨rfl, hA7, -⟩; replace hA7 := ZZ hA7; clear b9 b4; go_wp2_with fail; exact ⟨⟨i + 1, _, by omega, hd, by go_num, hA7.out, hDw.out, heq.out⟩, by simp [intOf]; omega⟩
     · have b1 : ¬ (((i : Nat) : Int) < (up : Int)) := by omega
       have hie : i = up := by omega
       subst hie; rw [Nat.sub_self, wrun] at heq; have s0 := hA.cs; have f0 := hA.cf; have e3 : (i : Int) - (fr : Int) = (n1 : Int) := by omega
       have b5 : ((n1 : Nat) : Int) < (n1 : Int) + 1 := by omega
       have b6 : decide (n1 + 1 ≤ n1) = false := decide_eq_false (by omega); obtain ⟨q0, -⟩ := hA.cd n1 (by omega); obtain ⟨res, hres⟩ : ∃ res, d.getD n1 0 = res := ⟨_, rfl⟩
       have hPr : Hid (wayV l (matchP l) (f + 1) fr i = res) := ZZ (hP.out.trans (by rw [heq]; exact hres)); rw [hres] at q0; replace hres := ZZ hres; replace hA := ZZ hA; replace heq := ZZ heq; clear hd hfi hiu; go_wp2_with fail; go_ret; exact ⟨by rw [hPr.out]; rfl, hA.out.bel⟩
end
theorem way_all (l : List I3) (G : Nat) (hG : G = 72 ∨ G = 67) (hl : OkL l) (hw : WholeOk l) : ∀ f, WayC l G f := by
 intro f; induction f with
 | zero => intro fr up w vl vm h hm hr hf; omega
 | succ f ih => exact way_step l G f hG hl hw ih
def countE (l : List I3) : Int := if locksE l = 0 then stacksE l else locksE l
theorem locks_whole {l : List I3} (h : locksE l = 0) : wholeP l = 0 := by
 unfold locksE at h; split at h
 · assumption
 · exact h
theorem count_whole {l : List I3} (h : countE l = 0) : wholeP l = 0 := by
 unfold countE at h; split at h
 · exact locks_whole (by assumption)
 · rename_i h2; exact absurd h h2
def cntV (v vm : Value) (G : Nat) : Value := .agg #[v, vm, .func (.func G) #[] #[]]
def cnt0 : Value := .agg #[.slice none 0 0, .slice none 0 0, .nilFunc]
theorem count_any (v : Value) (l : List I3) (G : Nat) (w : World) (h : CodeAt w v l) (hl : OkL l) : Calls Tryz.prog 66 #[v, .func (.func G) #[] #[]] w fun e w' => (∃ r, e = .returned (.tuple #[r, O Y (countE l)]) ∧ (countE l ≠ 0 → r = cnt0) ∧ (countE l = 0 → ∃ vm, r = cntV v vm G ∧ ArrAt w' vm (matchP l) l.length)) ∧ Below w.heap.size w w' := by
 obtain ⟨A, c, rfl, hc, _⟩ := id h; have hlen := hl.le; have H0 := ZZ h; have hl0 := ZZ hl; have hbl := heap_alloc_last w (.cells #[.slice none 0 0, .slice none 0 0, .nilFunc] 160); have al := (BR w.heap.size w).alloc (NR _) (.cells #[.slice none 0 0, .slice none 0 0, .nilFunc] 160); obtain ⟨W1, hW1⟩ : ∃ W1, w.alloc (.cells #[.slice none 0 0, .slice none 0 0, .nilFunc] 160) = W1 := ⟨_, rfl⟩
 rw [hW1] at hbl al; have hLk := ZZ (locks_any _ l W1 (h.step al) hl); clear h hl; go_enter Tryz.func66, Tryz.ntmps66; go_wp2_with fail; refine hLk.out.mono ?_; rintro e w2 ⟨vo, rfl, -, hb2⟩; have hb2' := ZZ (al.trans (hb2.mono al.size)); have hbl2 := ZZ ((hb2.block _ (ltA hbl)).trans hbl); clear hLk al hbl hW1 hb2; by_cases hL : locksE l = 0
 · have hC1 := (show countE l = stacksE l from if_pos hL)
   have hwo := locks_whole hL; have hLe := hL; rw [hL]; have hSt := ZZ (stacks_any _ l w2 (H0.out.step hb2'.out) hl0.out); replace hL := ZZ hL; go_wp2_with fail; refine hSt.out.mono ?_; rintro e w3 ⟨vs, rfl, hb3⟩; have hb3' := ZZ (hb2'.out.trans (hb3.mono hb2'.out.size)); have hbl3 := ZZ ((hb3.block _ (ltA hbl2.out)).trans hbl2.out); clear hSt hb3; by_cases hS : stacksE l = 0
   · rw [hS] at hC1 ⊢; replace hC1 := ZZ hC1; have hMa := ZZ (match_any _ l w3 (H0.out.step hb3'.out) hl0.out (whole_scan hwo)); replace hS := ZZ hS; replace hwo := ZZ hwo; replace hLe := ZZ hLe; go_wp2_with fail; refine hMa.out.mono ?_; rintro e w4 ⟨vm, rfl, hAm, hb4⟩; have hb4' := (hb3'.out.trans (hb4.mono hb3'.out.size))
     have hbl4 := ((hb4.block _ (ltA hbl3.out)).trans hbl3.out)
     obtain ⟨gm, rfl, hml, hmb⟩ := id hAm; have hne := cells_ne hmb hbl4 (by decide); clear hMa hb4; have q0a := bk hbl4 0 (.slice none 0 0); have q0b := blk_frozen hbl4 0; have m1 : (w4.setCell ⟨w.heap.size, 0, none⟩ (.slice A l.length c)).heap[w.heap.size]? = some (.cells #[.slice A l.length c, .slice none 0 0, .nilFunc] 160 (0, 0)) := blk_set hbl4 0 _; have q1a := bk m1 1 (.slice none 0 0); have q1b := blk_frozen m1 1; have m2 : ((w4.setCell ⟨w.heap.size, 0, none⟩ (.slice A l.length c)).setCell ⟨w.heap.size, 1, none⟩ (.slice (some ⟨gm, 0, none⟩) l.length l.length)).heap[w.heap.size]? = some (.cells #[.slice A l.length c, .slice (some ⟨gm, 0, none⟩) l.length l.length, .nilFunc] 160 (0, 0)) := blk_set m1 1 _; have q2a := bk m2 2 (.nilFunc); have q2b := blk_frozen m2 2; have m3 : (((w4.setCell ⟨w.heap.size, 0, none⟩ (.slice A l.length c)).setCell ⟨w.heap.size, 1, none⟩ (.slice (some ⟨gm, 0, none⟩) l.length l.length)).setCell ⟨w.heap.size, 2, none⟩ (.func (.func G) #[] #[])).heap[w.heap.size]? = some (.cells #[.slice A l.length c, .slice (some ⟨gm, 0, none⟩) l.length l.length, .func (.func G) #[] #[]] 160 (0, 0)) := blk_set m2 2 _; obtain ⟨W9, hW9⟩ : ∃ W9, (((w4.setCell ⟨w.heap.size, 0, none⟩ (.slice A l.length c)).setCell ⟨w.heap.size, 1, none⟩ (.slice (some ⟨gm, 0, none⟩) l.length l.length)).setCell ⟨w.heap.size, 2, none⟩ (.func (.func G) #[] #[])) = W9 := ⟨_, rfl⟩
     have hAm2 : ArrAt W9 (.slice (some ⟨gm, 0, none⟩) l.length l.length) (matchP l) l.length := by
      rw [← hW9]; exact ((hAm.far (k := 0) (x := .slice A l.length c) hne).far (k := 1) (x := .slice (some ⟨gm, 0, none⟩) l.length l.length) hne).far (k := 2) (x := .func (.func G) #[] #[]) hne
     have hB9 : Below w.heap.size w W9 := by
      rw [← hW9]; exact ((hb4'.setCell (p := ⟨w.heap.size, 0, none⟩) (by exact NR _) _).setCell (p := ⟨w.heap.size, 1, none⟩) (by exact NR _) _).setCell (p := ⟨w.heap.size, 2, none⟩) (by exact NR _) _
     replace hAm2 := ZZ hAm2; replace hB9 := ZZ hB9; rw [hW9] at m3; replace m1 := ZZ m1; replace m2 := ZZ m2; replace m3 := ZZ m3; clear hAm hmb hml hne hb4' hbl4; go_wp2_with fail; refine bodyPost_ret (results_ct rfl _ _ w.heap.size 160 #[.slice A l.length c, .slice (some ⟨gm, 0, none⟩) l.length l.length, .func (.func G) #[] #[]] (0, 0) _ rfl m3.out Tryz.underlying160 rfl (by kernel_rfl)) rfl ?_; exact ⟨⟨_, by rw [hC1.out]; rfl, fun h => absurd hC1.out h, fun _ => ⟨_, rfl, hAm2.out⟩⟩, hB9.out⟩
   · have f1 : (stacksE l != 0) = true := bne_iff_ne.mpr hS; have hne : countE l ≠ 0 := by rw [hC1]; exact hS
     replace hC1 := ZZ hC1; generalize stacksE l = se at *; replace hS := ZZ hS; replace hne := ZZ hne; replace hLe := ZZ hLe; have hbl4 := hbl3.out; have q0a := bk hbl4 0 (.slice none 0 0); have q0b := blk_frozen hbl4 0; have m1 : (w3.setCell ⟨w.heap.size, 0, none⟩ (.slice none 0 0)).heap[w.heap.size]? = some (.cells #[.slice none 0 0, .slice none 0 0, .nilFunc] 160 (0, 0)) := blk_set hbl4 0 _; have q1a := bk m1 1 (.slice none 0 0); have q1b := blk_frozen m1 1; have m2 : ((w3.setCell ⟨w.heap.size, 0, none⟩ (.slice none 0 0)).setCell ⟨w.heap.size, 1, none⟩ (.slice none 0 0)).heap[w.heap.size]? = some (.cells #[.slice none 0 0, .slice none 0 0, .nilFunc] 160 (0, 0)) := blk_set m1 1 _; have q2a := bk m2 2 (.nilFunc); have q2b := blk_frozen m2 2; have m3 : (((w3.setCell ⟨w.heap.size, 0, none⟩ (.slice none 0 0)).setCell ⟨w.heap.size, 1, none⟩ (.slice none 0 0)).setCell ⟨w.heap.size, 2, none⟩ (.nilFunc)).heap[w.heap.size]? = some (.cells #[.slice none 0 0, .slice none 0 0, .nilFunc] 160 (0, 0)) := blk_set m2 2 _; obtain ⟨W9, hW9⟩ : ∃ W9, (((w3.setCell ⟨w.heap.size, 0, none⟩ (.slice none 0 0)).setCell ⟨w.heap.size, 1, none⟩ (.slice none 0 0)).setCell ⟨w.heap.size, 2, none⟩ (.nilFunc)) = W9 := ⟨_, rfl⟩
     rw [hW9] at m3; have hB9 : Below w.heap.size w W9 := by
      rw [← hW9]; exact ((hb3'.out.setCell (p := ⟨w.heap.size, 0, none⟩) (by exact NR _) _).setCell (p := ⟨w.heap.size, 1, none⟩) (by exact NR _) _).setCell (p := ⟨w.heap.size, 2, none⟩) (by exact NR _) _
     replace hB9 := ZZ hB9; replace m1 := ZZ m1; replace m2 := ZZ m2; replace m3 := ZZ m3; replace hbl4 := ZZ hbl4; go_wp2_with fail; refine bodyPost_ret (results_ct rfl _ _ w.heap.size 160 #[.slice none 0 0, .slice none 0 0, .nilFunc] (0, 0) _ rfl m3.out Tryz.underlying160 rfl (by kernel_rfl)) rfl ?_; exact ⟨⟨_, by rw [hC1.out]; rfl, fun _ => rfl, fun h => absurd h hne.out⟩, hB9.out⟩
 · have hC1 := (show countE l = locksE l from if_neg hL)
   have f1 : (locksE l != 0) = true := bne_iff_ne.mpr hL; have hne : countE l ≠ 0 := by rw [hC1]; exact hL
   replace hC1 := ZZ hC1; generalize locksE l = le at *; replace hL := ZZ hL; replace hne := ZZ hne; have hbl4 := hbl2.out; have q0a := bk hbl4 0 (.slice none 0 0); have q0b := blk_frozen hbl4 0; have m1 : (w2.setCell ⟨w.heap.size, 0, none⟩ (.slice none 0 0)).heap[w.heap.size]? = some (.cells #[.slice none 0 0, .slice none 0 0, .nilFunc] 160 (0, 0)) := blk_set hbl4 0 _; have q1a := bk m1 1 (.slice none 0 0); have q1b := blk_frozen m1 1; have m2 : ((w2.setCell ⟨w.heap.size, 0, none⟩ (.slice none 0 0)).setCell ⟨w.heap.size, 1, none⟩ (.slice none 0 0)).heap[w.heap.size]? = some (.cells #[.slice none 0 0, .slice none 0 0, .nilFunc] 160 (0, 0)) := blk_set m1 1 _; have q2a := bk m2 2 (.nilFunc); have q2b := blk_frozen m2 2; have m3 : (((w2.setCell ⟨w.heap.size, 0, none⟩ (.slice none 0 0)).setCell ⟨w.heap.size, 1, none⟩ (.slice none 0 0)).setCell ⟨w.heap.size, 2, none⟩ (.nilFunc)).heap[w.heap.size]? = some (.cells #[.slice none 0 0, .slice none 0 0, .nilFunc] 160 (0, 0)) := blk_set m2 2 _; obtain ⟨W9, hW9⟩ : ∃ W9, (((w2.setCell ⟨w.heap.size, 0, none⟩ (.slice none 0 0)).setCell ⟨w.heap.size, 1, none⟩ (.slice none 0 0)).setCell ⟨w.heap.size, 2, none⟩ (.nilFunc)) = W9 := ⟨_, rfl⟩
   rw [hW9] at m3; have hB9 : Below w.heap.size w W9 := by
    rw [← hW9]; exact ((hb2'.out.setCell (p := ⟨w.heap.size, 0, none⟩) (by exact NR _) _).setCell (p := ⟨w.heap.size, 1, none⟩) (by exact NR _) _).setCell (p := ⟨w.heap.size, 2, none⟩) (by exact NR _) _
   replace hB9 := ZZ hB9; replace m1 := ZZ m1; replace m2 := ZZ m2; replace m3 := ZZ m3; replace hbl4 := ZZ hbl4; go_wp2_with fail; refine bodyPost_ret (results_ct rfl _ _ w.heap.size 160 #[.slice none 0 0, .slice none 0 0, .nilFunc] (0, 0) _ rfl m3.out Tryz.underlying160 rfl (by kernel_rfl)) rfl ?_; exact ⟨⟨_, by rw [hC1.out]; rfl, fun _ => rfl, fun h => absurd h hne.out⟩, hB9.out⟩
def allC (l : List I3) : Int := addC (wayV l (matchP l) 201 0 (l.length - 1)) 1
def worstP (l : List I3) : Int × Int := if countE l = 0 then (if allC l = 1048577 then (0, 4) else (allC l, 0)) else (0, countE l)
theorem all_any (v : Value) (l : List I3) (G : Nat) (hG : G = 72 ∨ G = 67) (w : World) (h : CodeAt w v l) (hl : OkL l) : Calls Tryz.prog 71 #[v, .func (.func G) #[] #[]] w fun e w' => e = .returned (.tuple #[O Y (worstP l).1, O Y (worstP l).2]) ∧ Below w.heap.size w w' := by
 obtain ⟨A, c, rfl, hc, _⟩ := id h; have hlen := hl.le; have hpos := hl.pos; have H0 := ZZ h; have hl0 := ZZ hl; have hC := ZZ (count_any _ l G w h hl); clear h hl; by_cases hE : countE l = 0
 · have hwo := ZZ (whole_ok hl0.out (count_whole hE)); have hP := (show worstP l = if allC l = 1048577 then (0, 4) else (allC l, 0) from if_pos hE)
   have hE2 := ZZ hE; rw [hE] at hC; obtain ⟨last, hlast⟩ : ∃ last, l.length = last + 1 := ⟨l.length - 1, by omega⟩
   have hll : l.length - 1 = last := by omega
   have e0 : (l.length : Int) - 1 = (last : Int) := by omega
   have e1 : wrap64 (last : Int) = (last : Int) := wrapIn (by omega); replace hE := ZZ hE; replace hlast := ZZ hlast; replace hll := ZZ hll; replace hP := ZZ hP; go_enter Tryz.func71, Tryz.ntmps71; go_wp2_with fail; refine hC.out.mono ?_; rintro e w2 ⟨⟨r, rfl, -, hr⟩, hb2⟩; obtain ⟨vm, rfl, hAm⟩ := hr (by simp); unfold cntV; obtain ⟨gm, rfl, -⟩ := id hAm; have m3 := heap_alloc_last w2 (.cells #[.slice A l.length c, .slice (some ⟨gm, 0, none⟩) l.length l.length, .func (.func G) #[] #[]] 160); have hK := (BR w2.heap.size w2).alloc (NR _) (.cells #[.slice A l.length c, .slice (some ⟨gm, 0, none⟩) l.length l.length, .func (.func G) #[] #[]] 160); obtain ⟨W9, hW9⟩ : ∃ W9, w2.alloc (.cells #[.slice A l.length c, .slice (some ⟨gm, 0, none⟩) l.length l.length, .func (.func G) #[] #[]] 160) = W9 := ⟨_, rfl⟩
   rw [hW9] at m3 hK; have hB9 := ZZ (hb2.trans (hK.mono hb2.size)); have y0 := bk m3 0 (.slice A l.length c); have y1 := bk m3 1 (.slice (some ⟨gm, 0, none⟩) l.length l.length); have y2 := bk m3 2 (.func (.func G) #[] #[]); have hWy := way_all l G hG hl0.out hwo.out 201 0 last W9 _ _ (H0.out.step hB9.out) (hAm.step hK) (.inl ⟨rfl, by have := hlast.out; omega⟩) (by have := hlast.out; omega); rw [show ((0 : Nat) : Int) = 0 from rfl] at hWy; have hbd := ZZ (wayV_bd hl0.out (matchP l) 201 0 last); have hAl : allC l = addC (wayV l (matchP l) 201 0 last) 1 := by unfold allC; rw [hll.out]
   generalize wayV l (matchP l) 201 0 last = wv at *; replace hWy := ZZ hWy; replace m3 := ZZ m3; replace hAl := ZZ hAl; clear hK hAm hb2 hr hC; go_wp2_with fail; refine hWy.out.mono ?_; rintro e w3 ⟨rfl, hb3⟩; have hB3 := ZZ (hB9.out.trans (hb3.mono hB9.out.size)); clear hWy y0 y1 y2 hb3; go_wp2_with fail; refine (add_any _ _ _ hbd.out (by decide)).mono ?_; rintro e w4 ⟨rfl, hw4⟩; rw [hw4, ← hAl.out]; clear hw4 w4; by_cases h1 : allC l = 1048577
   · have g1 : (allC l == 1048577) = true := beq_iff_eq.mpr h1; replace hP := ZZ (hP.out.trans (if_pos h1)); generalize allC l = al at *; replace h1 := ZZ h1; go_wp2_with fail; refine bodyPost_ret (results_tmp2 rfl _ _ _) rfl ?_; exact ⟨by rw [hP.out]; rfl, hB3.out⟩
   · have g1 : (allC l == 1048577) = false := beq_eq_false_iff_ne.mpr h1; replace hP := ZZ (hP.out.trans (if_neg h1)); generalize allC l = al at *; replace h1 := ZZ h1; go_wp2_with fail; refine bodyPost_ret (results_tmp2 rfl _ _ _) rfl ?_; exact ⟨by rw [hP.out]; rfl, hB3.out⟩
 · have hP := ZZ (show worstP l = (0, countE l) from if_neg hE); have f1 : (countE l != 0) = true := bne_iff_ne.mpr hE; generalize countE l = ce at *; replace hE := ZZ hE; go_enter Tryz.func71, Tryz.ntmps71; go_wp2_with fail; refine hC.out.mono ?_; rintro e w2 ⟨⟨r, rfl, hr, -⟩, hb2⟩; have hr2 := hr hE.out; subst hr2; unfold cnt0; have hB9 := ZZ (hb2.alloc hb2.size (.cells #[.slice none 0 0, .slice none 0 0, .nilFunc] 160)); clear hb2 hr hC; go_wp2_with fail; refine bodyPost_ret (results_tmp2 rfl _ _ _) rfl ?_; exact ⟨by rw [hP.out]; rfl, hB9.out⟩
theorem worst_any (v : Value) (l : List I3) (w : World) (h : CodeAt w v l) (hl : OkL l) : Calls Tryz.prog 38 #[v] w fun e w' => e = .returned (.tuple #[O Y (worstP l).1, O Y (worstP l).2]) ∧ Below w.heap.size w w' := by
 have hC := ZZ (all_any v l 72 (.inl rfl) w h hl); generalize worstP l = r at *; obtain ⟨r1, r2⟩ := r; clear h hl; go_enter Tryz.func38, Tryz.ntmps38; go_wp2_with fail; refine hC.out.mono ?_; rintro e w2 ⟨rfl, hb2⟩; replace hb2 := ZZ hb2; go_wp2_with fail; refine bodyPost_ret (results_tmp2 rfl _ _ _) rfl ?_; exact ⟨rfl, hb2.out⟩
end Go.Proofs.YtoopeamoejmjeaaGreat.Tp
