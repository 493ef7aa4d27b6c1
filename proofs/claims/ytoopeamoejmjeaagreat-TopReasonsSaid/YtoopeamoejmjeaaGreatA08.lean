/- Steps of the walk, merged and shortened by a program (fit.py). -/
import Derived.Carry
import Derived.Laws.EntriesVeiled
import Derived.Lib.Hide
import Derived.Test.YtoopeamoejmjeaaGreatA01
import Derived.Test.YtoopeamoejmjeaaGreatA07
import Derived.Test.YtoopeamoejmjeaaGreatWCut
set_option linter.unusedVariables false
set_option linter.unusedSimpArgs false
set_option maxRecDepth 100000
set_option maxHeartbeats 4000000
open Nat renaming le_refl → NR
open List renaming getElem?_eq_getElem → GE
open Go.RowKit.Below renaming refl → BR
open ByteArray renaming empty → BE
open List renaming getD_eq_getElem?_getD → GD
open Array renaming mem_of_getElem? → AM
open List renaming mem_of_getElem? → LM
open List renaming getElem?_eq_some_iff → GI
open List renaming map_toArray → MA
open Go.RowKit.Below renaming heap_setCell → BH
open Go.Lib renaming hid → ZZ
open Go.Value renaming int → O
open Go.IntKind renaming i64 → Y
namespace Go.Proofs.YtoopeamoejmjeaaGreat.Tp
open RowKit YtoopeamoejmjeaaGreatW.PrintWords YtoopeamoejmjeaaGreatW.PrintLast YtoopeamoejmjeaaGreatW.PrintMore Tm
section
inductive FnS where
 | const (s : ByteArray)
 | dup
 | swap
 | two
def FnV : FnS → Value → World → Prop
 | .const s, v, w => ∃ b, v = .func (.func 194) #[] #[.pointer (some ⟨b, 0, none⟩)] ∧ w.heap[b]? = some (.cells #[.string s] 9 (0, 0))
 | .dup, v, _ => v = .func (.func 166) #[] #[]
 | .swap, v, _ => v = .func (.func 167) #[] #[]
 | .two, v, _ => v = .func (.func 168) #[] #[]
def bI : ByteArray := ⟨#[105]⟩
def bB : ByteArray := ⟨#[98]⟩
def bN : ByteArray := ⟨#[]⟩
def takK (k : Int) : ByteArray := if k = 2 ∨ k = 3 then ⟨#[32]⟩ else if k = 4 then ⟨#[32, 32]⟩ else if k = 5 then ⟨#[105, 105]⟩ else if k = 12 ∨ k = 14 ∨ k = 16 ∨ k = 18 ∨ k = 6 then bI else if k = 8 ∨ k = 9 then ⟨#[98, 98]⟩ else if k = 7 ∨ k = 10 ∨ k = 20 then bB else bN
def fnK (k : Int) : FnS := if k = 3 then .dup else if k = 4 then .swap else if k = 5 then .two else if k = 1 ∨ k = 11 ∨ k = 13 ∨ k = 15 ∨ k = 17 ∨ k = 6 ∨ k = 10 then .const bI else if k = 7 ∨ k = 8 ∨ k = 9 then .const bB else .const bN
def EffV (k : Int) (v : Value) (w : World) : Prop := ∃ f, v = .agg #[.string (takK k), f] ∧ FnV (fnK k) f w
def effKeys : List Int := [1, 11, 13, 15, 17, 12, 14, 16, 18, 2, 3, 4, 5, 6, 7, 8, 9, 10, 20]
def GM (w w' : World) : Prop := w.heap.size ≤ w'.heap.size ∧ ∀ (b : Nat) c t f, w.heap[b]? = some (Obj.cells c t f) → w'.heap[b]? = some (Obj.cells c t f)
theorem GM.of_below {w w' : World} (h : Below w.heap.size w w') : GM w w' := ⟨h.size, fun b c t f hb => (h.block b (ltA hb)).trans hb⟩
theorem GM.refl (w : World) : GM w w := ⟨NR _, fun _ _ _ _ h => h⟩
theorem FnV.step {s : FnS} {v : Value} {w w' : World} (g : GM w w') (h : FnV s v w) : FnV s v w' := by
 cases s with
 | const s => obtain ⟨b, h1, h2⟩ := h; exact ⟨b, h1, g.2 _ _ _ _ h2⟩
 | dup => exact h
 | swap => exact h
 | two => exact h
theorem EffV.step {k : Int} {v : Value} {w w' : World} (g : GM w w') (h : EffV k v w) : EffV k v w' := by
 obtain ⟨f, h1, h2⟩ := h; exact ⟨f, h1, h2.step g⟩
theorem always_any (s : ByteArray) (w : World) : Calls Tryz.prog 165 #[.string s] w fun e w' => e = .returned (.func (.func 194) #[] #[.pointer (some ⟨w.heap.size, 0, none⟩)]) ∧ w' = w.alloc (.cells #[.string s] 9) := by
 go_enter Tryz.func165, Tryz.ntmps165; go_wp2_with fail; go_ret; exact ⟨rfl, rfl⟩
def insK (i : Nat) : Option Int := if i = 2 then some 1 else if i = 4 then some 11 else if i = 6 then some 13 else if i = 8 then some 15 else if i = 10 then some 17 else if i = 12 then some 12 else if i = 14 then some 14 else if i = 16 then some 16 else if i = 18 then some 18 else if i = 21 then some 2 else if i = 23 then some 3 else if i = 25 then some 4 else if i = 27 then some 5 else if i = 30 then some 6 else if i = 33 then some 7 else if i = 35 then some 8 else if i = 37 then some 9 else if i = 40 then some 10 else if i = 43 then some 20 else none
def valK (i : Nat) : Option Int := if i = 1 then some 1 else if i = 3 then some 11 else if i = 5 then some 13 else if i = 7 then some 15 else if i = 9 then some 17 else if i = 11 then some 12 else if i = 13 then some 14 else if i = 15 then some 16 else if i = 17 then some 18 else if i = 20 then some 2 else if i = 22 then some 3 else if i = 24 then some 4 else if i = 26 then some 5 else if i = 29 then some 6 else if i = 32 then some 7 else if i = 34 then some 8 else if i = 36 then some 9 else if i = 39 then some 10 else if i = 42 then some 20 else none
def calK (i : Nat) : Option ByteArray := if i = 19 then some bN else if i = 28 then some bI else if i = 31 then some bB else if i = 38 then some bI else if i = 41 then some bN else none
theorem insK_keys {i : Nat} {k : Int} (h : insK i = some k) : k ∈ effKeys ∧ i < 46 := by
 by_cases hi : i < 46
 · have h1 : ∀ i, i < 46 → (insK i).all (fun k => effKeys.contains k) = true := by decide
   have h2 := h1 i hi; rw [h] at h2; exact ⟨by simpa using h2, hi⟩
 · unfold insK at h; repeat rw [if_neg (by omega)] at h
   cases h
theorem insK_inj {i j : Nat} {k : Int} (hi : insK i = some k) (hj : insK j = some k) : i = j := by
 have h1 := (insK_keys hi).2; have h2 := (insK_keys hj).2; have h : ∀ i, i < 46 → ∀ j, j < 46 → (insK i).isSome = true → insK i = insK j → i = j := by decide
 exact h i h1 j h2 (by rw [hi]; rfl) (hi.trans hj.symm)
def RE (i : Nat) (v : Value) (w : World) : Prop := match valK i with
 | some k => EffV k v w
 | none => match calK i with
  | some s => FnV (.const s) v w
  | none => True
theorem RE.step (i : Nat) (v : Value) (w w' : World) (g : GM w w') (h : RE i v w) : RE i v w' := by
 unfold RE at h ⊢; split
 · rename_i k e; rw [e] at h; exact EffV.step g h
 · rename_i e; rw [e] at h; dsimp only at h; split
   · rename_i s e2; rw [e2] at h; exact FnV.step g h
   · trivial
structure JE (w0 : World) (b1 b2 b3 : Nat) (L : Nat → Bool) (s : Nat → Value) (w : World) : Prop where
 bel : Below w0.heap.size w0 w
 c1 : ∃ f, w.heap[b1]? = some (.cells #[.string bN, f] 282 (0, 0)) ∧ FnV (.const bI) f w
 c2 : ∃ f, w.heap[b2]? = some (.cells #[.string bI, f] 282 (0, 0)) ∧ FnV (.const bN) f w
 c3 : ∃ f, w.heap[b3]? = some (.cells #[.string ⟨#[98, 98]⟩, f] 282 (0, 0)) ∧ FnV (.const bB) f w
 no : ∀ i k, insK i = some k → L i = true → L 0 = true
 d44 : L 44 = true → L 0 = true ∧ s 35 = s 10
 d45 : L 45 = true → L 44 = true ∧ s 0 = s 35
 map : L 0 = true → ∃ m ws, s 10 = .map (some m) ∧ w0.heap.size ≤ m ∧ MapI w m ws ∧ ws.length + (List.range 46).countP (fun j => !L j) ≤ 46 ∧ (∀ x ∈ ws, ∃ i, L i = true ∧ insK i = some x.1 ∧ EffV x.1 x.2 w) ∧ (∀ i k, L i = true → insK i = some k → ∃ v, (k, v) ∈ ws)
theorem cnt_lt {L : Nat → Bool} {i : Nat} (hl : L i = false) (hi : i < 46) : (List.range 46).countP (fun j => !upd L i j) < (List.range 46).countP (fun j => !L j) :=
 countP_lt _ (fun x _ hq => by
  cases hx : L x with
  | false => rfl
  | true => rw [upd_of hx] at hq; cases hq) i (List.mem_range.2 hi) (by rw [hl]; rfl) (by rw [upd_self]; rfl)
theorem JE.mov {w0 w w' : World} {b1 b2 b3 : Nat} {L : Nat → Bool} {s : Nat → Value} (h : JE w0 b1 b2 b3 L s w) {i : Nat} (hl : L i = false) (hi : i < 46) (hk : insK i = none) (h0 : i ≠ 0) (h44 : i ≠ 44) (h45 : i ≠ 45) (d : Option Tmp) (v : Value) (hd : d ≠ some 10 ∧ d ≠ some 35 ∧ d ≠ some 0) (hb : Below w.heap.size w w') : JE w0 b1 b2 b3 (upd L i) (fun e => if d = some e then v else s e) w' := by
 have g := GM.of_below hb; have e1 : (if d = some 10 then v else s 10) = s 10 := if_neg hd.1; have e2 : (if d = some 35 then v else s 35) = s 35 := if_neg hd.2.1; have e3 : (if d = some 0 then v else s 0) = s 0 := if_neg hd.2.2; have u0 : upd L i 0 = L 0 := upd_ne L (fun e => h0 e.symm); have u44 : upd L i 44 = L 44 := upd_ne L (fun e => h44 e.symm); have u45 : upd L i 45 = L 45 := upd_ne L (fun e => h45 e.symm); refine ⟨h.bel.trans (hb.mono h.bel.size), ?_, ?_, ?_, fun j k hj hu => ?_, ?_, ?_, ?_⟩
 · obtain ⟨f, p, q⟩ := h.c1; exact ⟨f, g.2 _ _ _ _ p, q.step g⟩
 · obtain ⟨f, p, q⟩ := h.c2; exact ⟨f, g.2 _ _ _ _ p, q.step g⟩
 · obtain ⟨f, p, q⟩ := h.c3; exact ⟨f, g.2 _ _ _ _ p, q.step g⟩
 · rw [u0]; refine h.no j k hj ?_; rwa [upd_ne L (fun e => by subst e; rw [hk] at hj; cases hj)] at hu
 · rw [u44, u0, e1, e2]; exact h.d44
 · rw [u45, u44, e2, e3]; exact h.d45
 · rw [u0]; intro hu; obtain ⟨m, ws, p1, p2, p3, p4, p5, p6⟩ := h.map hu; refine ⟨m, ws, by rw [← p1]; exact e1, p2, p3.move (hb.block m p3.lt), by have := cnt_lt hl hi; omega, fun x hx => ?_, fun j k hj hk2 => ?_⟩
   · obtain ⟨j, q1, q2, q3⟩ := p5 x hx; exact ⟨j, upd_of q1, q2, q3.step g⟩
   · rw [upd_ne L (fun e => by subst e; rw [hk] at hk2; cases hk2)] at hj; exact p6 j k hj hk2
section
variable {w0 w : World} {b1 b2 b3 i : Nat} {L : Nat → Bool} {a : Act} {oi : Oper}
theorem load_ok {tb d : Tmp} {b : Nat} {k : Int} {t : ByteArray} {s : FnS} (hop : oi.op = .load 282 (.tmp tb)) (hd : oi.dst = some d) (hd' : d ≠ 10 ∧ d ≠ 35 ∧ d ≠ 0) (hb : a.tmps.getD tb undef = .pointer (some ⟨b, 0, none⟩))
 (hc : ∃ f, w.heap[b]? = some (.cells #[.string t, f] 282 (0, 0)) ∧ FnV s f w) (hv : valK i = some k) (ht : takK k = t) (hs : fnK k = s) (hk : insK i = none) (hi : i < 46 ∧ i ≠ 0 ∧ i ≠ 44 ∧ i ≠ 45)
 (hJ : JE w0 b1 b2 b3 L (fun e => a.tmps.getD e undef) w) (hl : L i = false) : Out Tryz.prog RE (JE w0 b1 b2 b3) GM i oi L a w := by
 obtain ⟨f, hc, hf⟩ := hc; have y0 := bk hc 0 (.string t); have y1 := (blk_cell hc 1).trans (rfl : _ = some f); refine .inl ⟨.agg #[.string t, f], w, ?_, ?_, ?_, GM.refl _⟩
 · rw [show oi = ⟨oi.dst, oi.op, oi.type, oi.pos, oi.after, oi.guard⟩ from rfl, hop]; have he : a.eval (.tmp tb) = .pointer (some ⟨b, 0, none⟩) := hb; generalize a.eval = ρ at *; go_simp
 · unfold RE; rw [hv]; exact ⟨f, by rw [ht], by rw [hs]; exact hf⟩
 · rw [hd]; exact hJ.mov hl hi.1 hk hi.2.1 hi.2.2.1 hi.2.2.2 (some d) _ ⟨by simp [hd'.1], by simp [hd'.2.1], by simp [hd'.2.2]⟩ (BR _ _)
theorem call_ok {d : Tmp} {s : ByteArray} {ts : Array TypeId} (hop : oi.op = .call { callee := .value (.func 165), args := #[.const (.string s)], argTypes := ts }) (hd : oi.dst = some d) (hd' : d ≠ 10 ∧ d ≠ 35 ∧ d ≠ 0)
 (hv : valK i = none) (hc : calK i = some s) (hk : insK i = none) (hi : i < 46 ∧ i ≠ 0 ∧ i ≠ 44 ∧ i ≠ 45)
 (hJ : JE w0 b1 b2 b3 L (fun e => a.tmps.getD e undef) w) (hl : L i = false) : Out Tryz.prog RE (JE w0 b1 b2 b3) GM i oi L a w := by
 refine .inr (.inr ⟨165, #[.string s], ?_, (always_any s w).mono ?_⟩)
 · have he := enters_ (P := Tryz.prog) (f := 165) Tryz.func165 rfl rfl #[.string s] w; unfold execOp; simp [hop, resolve, Deferred.ofValue, invoke, Act.eval, he]
 · rintro e w' ⟨rfl, rfl⟩; have hb := (BR w.heap.size w).alloc (NR _) (.cells #[.string s] 9); refine ⟨_, rfl, ?_, ?_, GM.of_below hb⟩
   · unfold RE; rw [hv, hc]; exact ⟨_, rfl, heap_alloc_last w _⟩
   · rw [hd]; exact hJ.mov hl hi.1 hk hi.2.1 hi.2.2.1 hi.2.2.2 (some d) _ ⟨by simp [hd'.1], by simp [hd'.2.1], by simp [hd'.2.2]⟩ hb
theorem build_ok {d : Tmp} {t : ByteArray} {x : Operand} {k : Int} (hop : oi.op = .build 282 #[(0, .const (.string t)), (1, x)]) (hd : oi.dst = some d) (hd' : d ≠ 10 ∧ d ≠ 35 ∧ d ≠ 0)
 (hf : FnV (fnK k) (a.eval x) w) (ht : takK k = t) (hv : valK i = some k) (hk : insK i = none) (hi : i < 46 ∧ i ≠ 0 ∧ i ≠ 44 ∧ i ≠ 45)
 (hJ : JE w0 b1 b2 b3 L (fun e => a.tmps.getD e undef) w) (hl : L i = false) : Out Tryz.prog RE (JE w0 b1 b2 b3) GM i oi L a w := by
 refine .inl ⟨.agg #[.string t, a.eval x], w, ?_, ?_, ?_, GM.refl _⟩
 · rw [show oi = ⟨oi.dst, oi.op, oi.type, oi.pos, oi.after, oi.guard⟩ from rfl, hop]; have he : a.eval (.const (.string t)) = .string t := rfl; revert hf; generalize hx : a.eval x = v; generalize a.eval = ρ at *; intro hf; revert hf; cases fnK k with
   | const s => rintro ⟨b, rfl, -⟩; go_simp
   | dup => intro hf; have hf : v = .func (.func 166) #[] #[] := hf; subst hf; go_simp
   | swap => intro hf; have hf : v = .func (.func 167) #[] #[] := hf; subst hf; go_simp
   | two => intro hf; have hf : v = .func (.func 168) #[] #[] := hf; subst hf; go_simp
 · unfold RE; rw [hv]; exact ⟨a.eval x, by rw [ht], hf⟩
 · rw [hd]; exact hJ.mov hl hi.1 hk hi.2.1 hi.2.2.1 hi.2.2.2 (some d) _ ⟨by simp [hd'.1], by simp [hd'.2.1], by simp [hd'.2.2]⟩ (BR _ _)
theorem ins_ok {d : Tmp} {k : Int} (hop : oi.op = .insert 283 (.tmp 10) (.const (O Y k)) (.tmp d)) (hd : oi.dst = none) (hv : EffV k (a.tmps.getD d undef) w) (hk : insK i = some k)
 (hJ : JE w0 b1 b2 b3 L (fun e => a.tmps.getD e undef) w) (hl : L i = false) (h0 : L 0 = true) : Out Tryz.prog RE (JE w0 b1 b2 b3) GM i oi L a w := by
 obtain ⟨m, ws, p1, p2, p3, p4, p5, p6⟩ := hJ.map h0; have hik := insK_keys hk; have hk64 : In64 k := by
  have : ∀ k ∈ effKeys, In64 k := by unfold In64; decide
  exact this k hik.1
 have hc := cnt_lt hl hik.2; obtain ⟨w', r1, r2, r3, r4, r5⟩ := MapI.store Tryz.underlying283 p3 (by unfold maxLen; omega) k (a.tmps.getD d undef) hk64 (fun x hx he => by
  obtain ⟨j, q1, q2, q3⟩ := p5 x hx; rw [he] at q2; have := insK_inj hk q2; subst this; rw [hl] at q1; cases q1)
 have hmap : ∃ es clock, w.heap[m]? = some (.map es clock) := by obtain ⟨es, clock, h, _⟩ := p3; exact ⟨es, clock, h⟩
 have g : GM w w' := ⟨r3.size, fun b c t f hb => (r3.block b (ltA hb) (fun e => by
  obtain ⟨es, clock, h⟩ := hmap; rw [List.mem_singleton.1 e, h] at hb; cases hb)).trans hb⟩
 refine .inr (.inl ⟨w', ?_, hd, ?_, g⟩)
 · rw [show oi = ⟨oi.dst, oi.op, oi.type, oi.pos, oi.after, oi.guard⟩ from rfl, hop]; unfold execOp; simp only [Act.eval]; rw [show a.tmps.getD 10 undef = .map (some m) from p1]; revert r1; generalize a.tmps.getD d undef = v; intro r1; simp [r1, Result.andThen]
 · have u0 : upd L i 0 = true := upd_of h0; have n44 : i ≠ 44 := fun e => by subst e; cases hk
   have n45 : i ≠ 45 := fun e => by subst e; cases hk
   have u44 : upd L i 44 = L 44 := upd_ne L (fun e => n44 e.symm); have u45 : upd L i 45 = L 45 := upd_ne L (fun e => n45 e.symm); refine ⟨hJ.bel.trans ⟨r3.os, r3.tape, r3.output, r3.size, fun b hb => r3.block b (Nat.lt_of_lt_of_le hb hJ.bel.size) (fun e => by rw [List.mem_singleton.1 e] at hb; omega)⟩, ?_, ?_, ?_, fun _ _ _ _ => u0, ?_, ?_, fun _ => ⟨m, (k, a.tmps.getD d undef) :: ws, p1, p2, r2, by simp only [List.length_cons]; omega, fun x hx => ?_, fun j k2 hj hk2 => ?_⟩⟩
   · obtain ⟨f, p, q⟩ := hJ.c1; exact ⟨f, g.2 _ _ _ _ p, q.step g⟩
   · obtain ⟨f, p, q⟩ := hJ.c2; exact ⟨f, g.2 _ _ _ _ p, q.step g⟩
   · obtain ⟨f, p, q⟩ := hJ.c3; exact ⟨f, g.2 _ _ _ _ p, q.step g⟩
   · rw [u44, u0]; exact fun h => ⟨rfl, (hJ.d44 h).2⟩
   · rw [u45, u44]; exact hJ.d45
   · rcases List.mem_cons.1 hx with rfl | hx
     · exact ⟨i, upd_self L i, hk, hv.step g⟩
     · obtain ⟨j, q1, q2, q3⟩ := p5 x hx; exact ⟨j, upd_of q1, q2, q3.step g⟩
   · by_cases e : j = i
     · subst e; rw [hk] at hk2; injection hk2 with hk2
       subst hk2; exact ⟨_, List.mem_cons_self ..⟩
     · rw [upd_ne L e] at hj; obtain ⟨v, hv⟩ := p6 j k2 hj hk2; exact ⟨v, List.mem_cons_of_mem _ hv⟩
theorem make_ok (hop : oi.op = .makeMap 283 none) (hd : oi.dst = some 10) (hJ : JE w0 b1 b2 b3 L (fun e => a.tmps.getD e undef) w) (hl : L 0 = false) (hs : w0.heap.size ≤ w.heap.size) : Out Tryz.prog RE (JE w0 b1 b2 b3) GM 0 oi L a w := by
 have hb := (BR w.heap.size w).alloc (NR _) (.map #[] 0); have g := GM.of_below hb; refine .inl ⟨.map (some w.heap.size), w.alloc (.map #[] 0), ?_, trivial, ?_, g⟩
 · rw [show oi = ⟨oi.dst, oi.op, oi.type, oi.pos, oi.after, oi.guard⟩ from rfl, hop]; generalize a.eval = ρ at *; have hmm := @run_makeMap Tryz.prog; go_simp
 · rw [hd]; have u44 : upd L 0 44 = L 44 := upd_ne L (by decide); have u45 : upd L 0 45 = L 45 := upd_ne L (by decide); have n44 : L 44 = false := by cases h : L 44 with | false => rfl | true => have := (hJ.d44 h).1; rw [hl] at this; cases this
   have n45 : L 45 = false := by cases h : L 45 with | false => rfl | true => have := (hJ.d45 h).1; rw [n44] at this; cases this
   refine ⟨hJ.bel.trans (hb.mono hJ.bel.size), ?_, ?_, ?_, fun _ _ _ _ => upd_self L 0, ?_, ?_, fun _ => ⟨w.heap.size, [], rfl, hs, MapI.made w, ?_, by simp, fun j k hj hk => ?_⟩⟩
   · obtain ⟨f, p, q⟩ := hJ.c1; exact ⟨f, g.2 _ _ _ _ p, q.step g⟩
   · obtain ⟨f, p, q⟩ := hJ.c2; exact ⟨f, g.2 _ _ _ _ p, q.step g⟩
   · obtain ⟨f, p, q⟩ := hJ.c3; exact ⟨f, g.2 _ _ _ _ p, q.step g⟩
   · rw [u44, n44]; intro h; cases h
   · rw [u45, n45]; intro h; cases h
   · have := List.countP_le_length (p := fun j => !upd L 0 j) (l := List.range 46); simp only [List.length_range] at this; simpa using this
   · have hj0 : j ≠ 0 := fun e => by subst e; cases hk
     rw [upd_ne L hj0] at hj; have := hJ.no j k hk hj; rw [hl] at this; cases this
theorem mv44 (hop : oi.op = .move (.tmp 10)) (hd : oi.dst = some 35) (hJ : JE w0 b1 b2 b3 L (fun e => a.tmps.getD e undef) w) (hl : L 44 = false) (h0 : L 0 = true) : Out Tryz.prog RE (JE w0 b1 b2 b3) GM 44 oi L a w := by
 refine .inl ⟨a.tmps.getD 10 undef, w, ?_, trivial, ?_, GM.refl _⟩
 · rw [show oi = ⟨oi.dst, oi.op, oi.type, oi.pos, oi.after, oi.guard⟩ from rfl, hop]; rfl
 · rw [hd]; have n45 : L 45 = false := by cases h : L 45 with | false => rfl | true => have := (hJ.d45 h).1; rw [hl] at this; cases this
   have u0 : upd L 44 0 = L 0 := upd_ne L (by decide); refine ⟨hJ.bel, hJ.c1, hJ.c2, hJ.c3, fun _ _ _ _ => by rw [u0]; exact h0, fun _ => ⟨by rw [u0]; exact h0, rfl⟩, ?_, fun h => ?_⟩
   · rw [upd_ne L (by decide), n45]; intro h; cases h
   · obtain ⟨m, ws, p1, p2, p3, p4, p5, p6⟩ := hJ.map h0; refine ⟨m, ws, p1, p2, p3, by have := cnt_lt hl (by decide); omega, fun x hx => ?_, fun j k hj hk => ?_⟩
     · obtain ⟨j, q1, q2, q3⟩ := p5 x hx; exact ⟨j, upd_of q1, q2, q3⟩
     · rw [upd_ne L (fun e => by subst e; cases hk)] at hj; exact p6 j k hj hk
theorem as45 (hop : oi.op = .assign (.tmp 35)) (hd : oi.dst = some 0) (hJ : JE w0 b1 b2 b3 L (fun e => a.tmps.getD e undef) w) (hl : L 45 = false) (h44 : L 44 = true) : Out Tryz.prog RE (JE w0 b1 b2 b3) GM 45 oi L a w := by
 have h0 := (hJ.d44 h44).1; refine .inl ⟨a.tmps.getD 35 undef, w, ?_, trivial, ?_, GM.refl _⟩
 · rw [show oi = ⟨oi.dst, oi.op, oi.type, oi.pos, oi.after, oi.guard⟩ from rfl, hop]; rfl
 · rw [hd]; have u0 : upd L 45 0 = L 0 := upd_ne L (by decide); have u44 : upd L 45 44 = L 44 := upd_ne L (by decide); refine ⟨hJ.bel, hJ.c1, hJ.c2, hJ.c3, fun _ _ _ _ => by rw [u0]; exact h0, ?_, fun _ => ⟨by rw [u44]; exact h44, rfl⟩, fun h => ?_⟩
   · rw [u44, u0]; exact hJ.d44
   · obtain ⟨m, ws, p1, p2, p3, p4, p5, p6⟩ := hJ.map h0; refine ⟨m, ws, p1, p2, p3, by have := cnt_lt hl (by decide); omega, fun x hx => ?_, fun j k hj hk => ?_⟩
     · obtain ⟨j, q1, q2, q3⟩ := p5 x hx; exact ⟨j, upd_of q1, q2, q3⟩
     · rw [upd_ne L (fun e => by subst e; cases hk)] at hj; exact p6 j k hj hk
end
theorem arr36 (T : Array Value) (h : T.size = 36) : ∃ x0 x1 x2 x3 x4 x5 x6 x7 x8 x9 x10 x11 x12 x13 x14 x15 x16 x17 x18 x19 x20 x21 x22 x23 x24 x25 x26 x27 x28 x29 x30 x31 x32 x33 x34 x35, T = #[x0, x1, x2, x3, x4, x5, x6, x7, x8, x9, x10, x11, x12, x13, x14, x15, x16, x17, x18, x19, x20, x21, x22, x23, x24, x25, x26, x27, x28, x29, x30, x31, x32, x33, x34, x35] := by
 obtain ⟨l⟩ := T; obtain _ | ⟨x0, l⟩ := l
 · simp at h
 obtain _ | ⟨x1, l⟩ := l
 · simp at h
 obtain _ | ⟨x2, l⟩ := l
 · simp at h
 obtain _ | ⟨x3, l⟩ := l
 · simp at h
 obtain _ | ⟨x4, l⟩ := l
 · simp at h
 obtain _ | ⟨x5, l⟩ := l
 · simp at h
 obtain _ | ⟨x6, l⟩ := l
 · simp at h
 obtain _ | ⟨x7, l⟩ := l
 · simp at h
 obtain _ | ⟨x8, l⟩ := l
 · simp at h
 obtain _ | ⟨x9, l⟩ := l
 · simp at h
 obtain _ | ⟨x10, l⟩ := l
 · simp at h
 obtain _ | ⟨x11, l⟩ := l
 · simp at h
 obtain _ | ⟨x12, l⟩ := l
 · simp at h
 obtain _ | ⟨x13, l⟩ := l
 · simp at h
 obtain _ | ⟨x14, l⟩ := l
 · simp at h
 obtain _ | ⟨x15, l⟩ := l
 · simp at h
 obtain _ | ⟨x16, l⟩ := l
 · simp at h
 obtain _ | ⟨x17, l⟩ := l
 · simp at h
 obtain _ | ⟨x18, l⟩ := l
 · simp at h
 obtain _ | ⟨x19, l⟩ := l
 · simp at h
 obtain _ | ⟨x20, l⟩ := l
 · simp at h
 obtain _ | ⟨x21, l⟩ := l
 · simp at h
 obtain _ | ⟨x22, l⟩ := l
 · simp at h
 obtain _ | ⟨x23, l⟩ := l
 · simp at h
 obtain _ | ⟨x24, l⟩ := l
 · simp at h
 obtain _ | ⟨x25, l⟩ := l
 · simp at h
 obtain _ | ⟨x26, l⟩ := l
 · simp at h
 obtain _ | ⟨x27, l⟩ := l
 · simp at h
 obtain _ | ⟨x28, l⟩ := l
 · simp at h
 obtain _ | ⟨x29, l⟩ := l
 · simp at h
 obtain _ | ⟨x30, l⟩ := l
 · simp at h
 obtain _ | ⟨x31, l⟩ := l
 · simp at h
 obtain _ | ⟨x32, l⟩ := l
 · simp at h
 obtain _ | ⟨x33, l⟩ := l
 · simp at h
 obtain _ | ⟨x34, l⟩ := l
 · simp at h
 obtain _ | ⟨x35, l⟩ := l
 · simp at h
 obtain _ | ⟨y, l⟩ := l
 · exact ⟨x0, x1, x2, x3, x4, x5, x6, x7, x8, x9, x10, x11, x12, x13, x14, x15, x16, x17, x18, x19, x20, x21, x22, x23, x24, x25, x26, x27, x28, x29, x30, x31, x32, x33, x34, x35, rfl⟩
 · simp at h; try omega
def EffM (v : Value) (w : World) : Prop := ∃ m ws, v = .map (some m) ∧ MapI w m ws ∧ (∀ x ∈ ws, x.1 ∈ effKeys ∧ EffV x.1 x.2 w) ∧ (∀ k ∈ effKeys, ∃ v, (k, v) ∈ ws)
theorem keys_ins : ∀ k ∈ effKeys, ∃ i, i < 46 ∧ insK i = some k := by decide
theorem JE.end' {w0 w : World} {b1 b2 b3 : Nat} {L : Nat → Bool} {s : Nat → Value} (h : JE w0 b1 b2 b3 L s w) (ha : ∀ i, i < 46 → L i = true) : EffM (s 0) w := by
 have e1 := (h.d44 (ha 44 (by decide))).2; have e2 := (h.d45 (ha 45 (by decide))).2; obtain ⟨m, ws, p1, p2, p3, p4, p5, p6⟩ := h.map (ha 0 (by decide)); refine ⟨m, ws, by rw [e2, e1, p1], p3, fun x hx => ?_, fun k hk => ?_⟩
 · obtain ⟨i, q1, q2, q3⟩ := p5 x hx; exact ⟨(insK_keys q2).1, q3⟩
 · obtain ⟨i, hi, hk⟩ := keys_ins k hk; exact p6 i k (ha i hi) hk
theorem effects_any (w : World) : Calls Tryz.prog 163 #[] w fun e w' => ∃ v, e = .returned v ∧ EffM v w' ∧ Below w.heap.size w w' := by
 go_enter Tryz.func163, Tryz.ntmps163; go_wp2_with fail; refine (always_any _ _).mono ?_; rintro e w1 ⟨rfl, rfl⟩; go_wp2_with fail; refine (always_any _ _).mono ?_; rintro e w2 ⟨rfl, hw2⟩; have hbl := ((BR w.heap.size w).alloc (NR _) (.cells #[.string ⟨#[105]⟩] 9)).alloc (by simp) (.cells #[.string ⟨#[]⟩] 9); have k0 := (Below.heap_alloc (w.alloc (.cells #[.string ⟨#[105]⟩] 9)) (.cells #[.string ⟨#[]⟩] 9) w.heap.size (by simp)).trans (heap_alloc_last w (.cells #[.string ⟨#[105]⟩] 9)); have k1 := heap_alloc_last (w.alloc (.cells #[.string ⟨#[105]⟩] 9)) (.cells #[.string ⟨#[]⟩] 9); rw [← hw2] at hbl k0 k1; simp only [World.size_alloc] at k1 ⊢; clear hw2; have n1 := (ltA k1); obtain ⟨W3, hW3⟩ : ∃ W3, (w2.alloc (.cells #[.string ⟨#[]⟩, .nilFunc] 282)).alloc (.cells #[.string ⟨#[]⟩, .nilFunc] 282) = W3 := ⟨_, rfl⟩
 have m0 : W3.heap[w2.heap.size]? = some (.cells #[.string ⟨#[]⟩, .nilFunc] 282 (0, 0)) := by rw [← hW3]; exact (Below.heap_alloc _ _ w2.heap.size (by simp)).trans (heap_alloc_last w2 _)
 have m1 : W3.heap[w2.heap.size + 1]? = some (.cells #[.string ⟨#[]⟩, .nilFunc] 282 (0, 0)) := by rw [← hW3]; have h9 := heap_alloc_last (w2.alloc (.cells #[.string ⟨#[]⟩, .nilFunc] 282)) (.cells #[.string ⟨#[]⟩, .nilFunc] 282); rwa [World.size_alloc] at h9
 have hB3 := (hbl.alloc hbl.size (.cells #[.string ⟨#[]⟩, .nilFunc] 282)).alloc (by have := hbl.size; simp; omega) (.cells #[.string ⟨#[]⟩, .nilFunc] 282); have hK3 := ((BR w2.heap.size w2).alloc (NR _) (.cells #[.string ⟨#[]⟩, .nilFunc] 282)).alloc (by simp) (.cells #[.string ⟨#[]⟩, .nilFunc] 282); rw [hW3] at hB3 hK3; have j0 := (hK3.block _ (ltA k0)).trans k0; have j1 := (hK3.block _ (ltA k1)).trans k1; have m0a : (W3.setCell ⟨w2.heap.size, 0, none⟩ (.string ⟨#[]⟩)).heap[w2.heap.size]? = some (.cells #[.string ⟨#[]⟩, .nilFunc] 282 (0, 0)) := blk_set m0 0 _; have m0b : ((W3.setCell ⟨w2.heap.size, 0, none⟩ (.string ⟨#[]⟩)).setCell ⟨w2.heap.size, 1, none⟩ (.func (.func 194) #[] #[.pointer (some ⟨w.heap.size, 0, none⟩)])).heap[w2.heap.size]? = some (.cells #[.string ⟨#[]⟩, .func (.func 194) #[] #[.pointer (some ⟨w.heap.size, 0, none⟩)]] 282 (0, 0)) := blk_set m0a 1 _; have m1b := (BH (W3.setCell ⟨w2.heap.size, 0, none⟩ (.string ⟨#[]⟩)) ⟨w2.heap.size, 1, none⟩ (.func (.func 194) #[] #[.pointer (some ⟨w.heap.size, 0, none⟩)]) (w2.heap.size + 1) (by simp)).trans ((BH W3 ⟨w2.heap.size, 0, none⟩ (.string ⟨#[]⟩) (w2.heap.size + 1) (by simp)).trans m1); have hB4 := (hB3.setCell (p := ⟨w2.heap.size, 0, none⟩) (by exact hbl.size) (.string ⟨#[]⟩)).setCell (p := ⟨w2.heap.size, 1, none⟩) (by exact hbl.size) (.func (.func 194) #[] #[.pointer (some ⟨w.heap.size, 0, none⟩)]); have j0b := (BH (W3.setCell ⟨w2.heap.size, 0, none⟩ (.string ⟨#[]⟩)) ⟨w2.heap.size, 1, none⟩ (.func (.func 194) #[] #[.pointer (some ⟨w.heap.size, 0, none⟩)]) (w.heap.size) (by simp; omega)).trans ((BH W3 ⟨w2.heap.size, 0, none⟩ (.string ⟨#[]⟩) (w.heap.size) (by simp; omega)).trans j0); have j1b := (BH (W3.setCell ⟨w2.heap.size, 0, none⟩ (.string ⟨#[]⟩)) ⟨w2.heap.size, 1, none⟩ (.func (.func 194) #[] #[.pointer (some ⟨w.heap.size, 0, none⟩)]) (w.heap.size + 1) (by simp; omega)).trans ((BH W3 ⟨w2.heap.size, 0, none⟩ (.string ⟨#[]⟩) (w.heap.size + 1) (by simp; omega)).trans j1); have q0 := bk m0 0 (.string ⟨#[]⟩); have q2 := blk_frozen m0 0; have q1 := (blk_cell m0a 1).trans (rfl : _ = some Value.nilFunc); have q3 := blk_frozen m0a 1; obtain ⟨W4, hW4⟩ : ∃ W4, (W3.setCell ⟨w2.heap.size, 0, none⟩ (.string ⟨#[]⟩)).setCell ⟨w2.heap.size, 1, none⟩ (.func (.func 194) #[] #[.pointer (some ⟨w.heap.size, 0, none⟩)]) = W4 := ⟨_, rfl⟩
 rw [hW4] at m0b m1b hB4 j0b j1b; have m1c : (W4.setCell ⟨w2.heap.size + 1, 0, none⟩ (.string ⟨#[105]⟩)).heap[w2.heap.size + 1]? = some (.cells #[.string ⟨#[105]⟩, .nilFunc] 282 (0, 0)) := blk_set m1b 0 _; have m1d : ((W4.setCell ⟨w2.heap.size + 1, 0, none⟩ (.string ⟨#[105]⟩)).setCell ⟨w2.heap.size + 1, 1, none⟩ (.func (.func 194) #[] #[.pointer (some ⟨w.heap.size + 1, 0, none⟩)])).heap[w2.heap.size + 1]? = some (.cells #[.string ⟨#[105]⟩, .func (.func 194) #[] #[.pointer (some ⟨w.heap.size + 1, 0, none⟩)]] 282 (0, 0)) := blk_set m1c 1 _; have m0d := (BH (W4.setCell ⟨w2.heap.size + 1, 0, none⟩ (.string ⟨#[105]⟩)) ⟨w2.heap.size + 1, 1, none⟩ (.func (.func 194) #[] #[.pointer (some ⟨w.heap.size + 1, 0, none⟩)]) (w2.heap.size) (by simp)).trans ((BH W4 ⟨w2.heap.size + 1, 0, none⟩ (.string ⟨#[105]⟩) (w2.heap.size) (by simp)).trans m0b); have hB5 := (hB4.setCell (p := ⟨w2.heap.size + 1, 0, none⟩) (by show w.heap.size ≤ w2.heap.size + 1; have := hbl.size; omega) (.string ⟨#[105]⟩)).setCell (p := ⟨w2.heap.size + 1, 1, none⟩) (by show w.heap.size ≤ w2.heap.size + 1; have := hbl.size; omega) (.func (.func 194) #[] #[.pointer (some ⟨w.heap.size + 1, 0, none⟩)]); have j0d := (BH (W4.setCell ⟨w2.heap.size + 1, 0, none⟩ (.string ⟨#[105]⟩)) ⟨w2.heap.size + 1, 1, none⟩ (.func (.func 194) #[] #[.pointer (some ⟨w.heap.size + 1, 0, none⟩)]) (w.heap.size) (by simp; omega)).trans ((BH W4 ⟨w2.heap.size + 1, 0, none⟩ (.string ⟨#[105]⟩) (w.heap.size) (by simp; omega)).trans j0b); have j1d := (BH (W4.setCell ⟨w2.heap.size + 1, 0, none⟩ (.string ⟨#[105]⟩)) ⟨w2.heap.size + 1, 1, none⟩ (.func (.func 194) #[] #[.pointer (some ⟨w.heap.size + 1, 0, none⟩)]) (w.heap.size + 1) (by simp; omega)).trans ((BH W4 ⟨w2.heap.size + 1, 0, none⟩ (.string ⟨#[105]⟩) (w.heap.size + 1) (by simp; omega)).trans j1b); have q4 := bk m1b 0 (.string ⟨#[]⟩); have q5 := blk_frozen m1b 0; have q6 := (blk_cell m1c 1).trans (rfl : _ = some Value.nilFunc); have q7 := blk_frozen m1c 1; obtain ⟨W5, hW5⟩ : ∃ W5, (W4.setCell ⟨w2.heap.size + 1, 0, none⟩ (.string ⟨#[105]⟩)).setCell ⟨w2.heap.size + 1, 1, none⟩ (.func (.func 194) #[] #[.pointer (some ⟨w.heap.size + 1, 0, none⟩)]) = W5 := ⟨_, rfl⟩
 rw [hW5] at m1d m0d hB5 j0d j1d; replace m0 := ZZ m0; replace m1 := ZZ m1; replace m0a := ZZ m0a; replace m0b := ZZ m0b; replace m1b := ZZ m1b; replace m1c := ZZ m1c; replace m1d := ZZ m1d; replace m0d := ZZ m0d; replace j0d := ZZ j0d; replace j1d := ZZ j1d; replace hB5 := ZZ hB5; clear hB3 hK3 hbl k0 k1 j0 j1 j0b j1b hB4; go_wp2_with fail; refine (always_any _ _).mono ?_; rintro e w6 ⟨rfl, hw6⟩; have n5 := hB5.out.size; have al := (BR W5.heap.size W5).alloc (NR _) (.cells #[.string ⟨#[98]⟩] 9); have k2 := heap_alloc_last W5 (.cells #[.string ⟨#[98]⟩] 9); have hB6 := hB5.out.alloc n5 (.cells #[.string ⟨#[98]⟩] 9); rw [← hw6] at al k2 hB6; have s6 : w6.heap.size = W5.heap.size + 1 := by rw [hw6, World.size_alloc]
 clear hw6; have al7 := al.trans (((BR w6.heap.size w6).alloc (NR _) (.cells #[.string ⟨#[]⟩, .nilFunc] 282)).mono al.size); have m2 := heap_alloc_last w6 (.cells #[.string ⟨#[]⟩, .nilFunc] 282); have k2' := (Below.heap_alloc w6 (.cells #[.string ⟨#[]⟩, .nilFunc] 282) W5.heap.size (by omega)).trans k2; have hB7 := hB6.alloc hB6.size (.cells #[.string ⟨#[]⟩, .nilFunc] 282); obtain ⟨W7, hW7⟩ : ∃ W7, w6.alloc (.cells #[.string ⟨#[]⟩, .nilFunc] 282) = W7 := ⟨_, rfl⟩
 rw [hW7] at al7 m2 k2' hB7; have m2a : (W7.setCell ⟨w6.heap.size, 0, none⟩ (.string ⟨#[98, 98]⟩)).heap[w6.heap.size]? = some (.cells #[.string ⟨#[98, 98]⟩, .nilFunc] 282 (0, 0)) := blk_set m2 0 _; have m2b : ((W7.setCell ⟨w6.heap.size, 0, none⟩ (.string ⟨#[98, 98]⟩)).setCell ⟨w6.heap.size, 1, none⟩ (.func (.func 194) #[] #[.pointer (some ⟨W5.heap.size, 0, none⟩)])).heap[w6.heap.size]? = some (.cells #[.string ⟨#[98, 98]⟩, .func (.func 194) #[] #[.pointer (some ⟨W5.heap.size, 0, none⟩)]] 282 (0, 0)) := blk_set m2a 1 _; have hB8 := (al7.setCell (p := ⟨w6.heap.size, 0, none⟩) (by show W5.heap.size ≤ w6.heap.size; omega) (.string ⟨#[98, 98]⟩)).setCell (p := ⟨w6.heap.size, 1, none⟩) (by show W5.heap.size ≤ w6.heap.size; omega) (.func (.func 194) #[] #[.pointer (some ⟨W5.heap.size, 0, none⟩)]); have k2b := (BH (W7.setCell ⟨w6.heap.size, 0, none⟩ (.string ⟨#[98, 98]⟩)) ⟨w6.heap.size, 1, none⟩ (.func (.func 194) #[] #[.pointer (some ⟨W5.heap.size, 0, none⟩)]) W5.heap.size (by simp; omega)).trans ((BH W7 ⟨w6.heap.size, 0, none⟩ (.string ⟨#[98, 98]⟩) W5.heap.size (by simp; omega)).trans k2'); have q0 := bk m2 0 (.string ⟨#[]⟩); have q2 := blk_frozen m2 0; have q1 := (blk_cell m2a 1).trans (rfl : _ = some Value.nilFunc); have q3 := blk_frozen m2a 1; obtain ⟨W8, hW8⟩ : ∃ W8, (W7.setCell ⟨w6.heap.size, 0, none⟩ (.string ⟨#[98, 98]⟩)).setCell ⟨w6.heap.size, 1, none⟩ (.func (.func 194) #[] #[.pointer (some ⟨W5.heap.size, 0, none⟩)]) = W8 := ⟨_, rfl⟩
 rw [hW8] at m2b hB8 k2b; have g8 := (GM.of_below hB8.drew)
 have hJ : ∀ s, JE w w2.heap.size (w2.heap.size + 1) w6.heap.size (fun _ => false) s W8.drew := fun s => ⟨(hB5.out.trans (hB8.drew.mono n5)), ⟨_, g8.2 _ _ _ _ m0d.out, ⟨_, rfl, g8.2 _ _ _ _ j0d.out⟩⟩, ⟨_, g8.2 _ _ _ _ m1d.out, ⟨_, rfl, g8.2 _ _ _ _ j1d.out⟩⟩, ⟨_, m2b, ⟨_, rfl, k2b⟩⟩, fun _ _ _ h => Bool.noConfusion h, fun h => Bool.noConfusion h, fun h => Bool.noConfusion h, fun h => Bool.noConfusion h⟩
 replace hJ := ZZ hJ; clear al k2 hB6 al7 hB7 k2' hB8 k2b m2b g8 m0 m1 m0a m0b m1b m1c m1d m0d j0d j1d hB5; replace s6 := ZZ s6; replace n5 := ZZ n5; replace m2 := ZZ m2; replace m2a := ZZ m2a; go_wp2_with fail; refine wp_region_inv RE (JE w w2.heap.size (w2.heap.size + 1) w6.heap.size) GM (by kernel_rfl) (by kernel_rfl) RE.step (hJ.out _) ?_ ?_
 · refine ⟨fun L a w h hl hd => make_ok rfl rfl h.inv hl h.inv.bel.size,
   fun L a w h hl hd => load_ok rfl rfl ⟨by decide, by decide, by decide⟩ (h.fix 1 (by kernel_rfl)) h.inv.c1 rfl (by decide) (by rfl) rfl ⟨by decide, by decide, by decide, by decide⟩ h.inv hl,
   fun L a w h hl hd => ins_ok rfl rfl (h.val 1 _ 11 rfl rfl (hd _ (AM (i := 1) rfl) (by rfl))) rfl h.inv hl (hd _ (AM (i := 0) rfl) (by rfl)),
   fun L a w h hl hd => load_ok rfl rfl ⟨by decide, by decide, by decide⟩ (h.fix 1 (by kernel_rfl)) h.inv.c1 rfl (by decide) (by rfl) rfl ⟨by decide, by decide, by decide, by decide⟩ h.inv hl,
   fun L a w h hl hd => ins_ok rfl rfl (h.val 3 _ 12 rfl rfl (hd _ (AM (i := 1) rfl) (by rfl))) rfl h.inv hl (hd _ (AM (i := 0) rfl) (by rfl)),
   fun L a w h hl hd => load_ok rfl rfl ⟨by decide, by decide, by decide⟩ (h.fix 1 (by kernel_rfl)) h.inv.c1 rfl (by decide) (by rfl) rfl ⟨by decide, by decide, by decide, by decide⟩ h.inv hl,
   fun L a w h hl hd => ins_ok rfl rfl (h.val 5 _ 13 rfl rfl (hd _ (AM (i := 1) rfl) (by rfl))) rfl h.inv hl (hd _ (AM (i := 0) rfl) (by rfl)),
   fun L a w h hl hd => load_ok rfl rfl ⟨by decide, by decide, by decide⟩ (h.fix 1 (by kernel_rfl)) h.inv.c1 rfl (by decide) (by rfl) rfl ⟨by decide, by decide, by decide, by decide⟩ h.inv hl,
   fun L a w h hl hd => ins_ok rfl rfl (h.val 7 _ 14 rfl rfl (hd _ (AM (i := 1) rfl) (by rfl))) rfl h.inv hl (hd _ (AM (i := 0) rfl) (by rfl)),
   fun L a w h hl hd => load_ok rfl rfl ⟨by decide, by decide, by decide⟩ (h.fix 1 (by kernel_rfl)) h.inv.c1 rfl (by decide) (by rfl) rfl ⟨by decide, by decide, by decide, by decide⟩ h.inv hl,
   fun L a w h hl hd => ins_ok rfl rfl (h.val 9 _ 15 rfl rfl (hd _ (AM (i := 1) rfl) (by rfl))) rfl h.inv hl (hd _ (AM (i := 0) rfl) (by rfl)),
   fun L a w h hl hd => load_ok rfl rfl ⟨by decide, by decide, by decide⟩ (h.fix 2 (by kernel_rfl)) h.inv.c2 rfl (by decide) (by rfl) rfl ⟨by decide, by decide, by decide, by decide⟩ h.inv hl,
   fun L a w h hl hd => ins_ok rfl rfl (h.val 11 _ 16 rfl rfl (hd _ (AM (i := 1) rfl) (by rfl))) rfl h.inv hl (hd _ (AM (i := 0) rfl) (by rfl)),
   fun L a w h hl hd => load_ok rfl rfl ⟨by decide, by decide, by decide⟩ (h.fix 2 (by kernel_rfl)) h.inv.c2 rfl (by decide) (by rfl) rfl ⟨by decide, by decide, by decide, by decide⟩ h.inv hl,
   fun L a w h hl hd => ins_ok rfl rfl (h.val 13 _ 17 rfl rfl (hd _ (AM (i := 1) rfl) (by rfl))) rfl h.inv hl (hd _ (AM (i := 0) rfl) (by rfl)),
   fun L a w h hl hd => load_ok rfl rfl ⟨by decide, by decide, by decide⟩ (h.fix 2 (by kernel_rfl)) h.inv.c2 rfl (by decide) (by rfl) rfl ⟨by decide, by decide, by decide, by decide⟩ h.inv hl,
   fun L a w h hl hd => ins_ok rfl rfl (h.val 15 _ 18 rfl rfl (hd _ (AM (i := 1) rfl) (by rfl))) rfl h.inv hl (hd _ (AM (i := 0) rfl) (by rfl)),
   fun L a w h hl hd => load_ok rfl rfl ⟨by decide, by decide, by decide⟩ (h.fix 2 (by kernel_rfl)) h.inv.c2 rfl (by decide) (by rfl) rfl ⟨by decide, by decide, by decide, by decide⟩ h.inv hl,
   fun L a w h hl hd => ins_ok rfl rfl (h.val 17 _ 19 rfl rfl (hd _ (AM (i := 1) rfl) (by rfl))) rfl h.inv hl (hd _ (AM (i := 0) rfl) (by rfl)),
   fun L a w h hl hd => call_ok rfl rfl ⟨by decide, by decide, by decide⟩ rfl rfl rfl ⟨by decide, by decide, by decide, by decide⟩ h.inv hl,
   fun L a w h hl hd => build_ok (k := 2) rfl rfl ⟨by decide, by decide, by decide⟩ (show FnV (fnK 2) _ w from h.val 19 _ 20 rfl rfl (hd _ (AM (i := 0) rfl) (by rfl))) (by decide) rfl rfl ⟨by decide, by decide, by decide, by decide⟩ h.inv hl,
   fun L a w h hl hd => ins_ok rfl rfl (h.val 20 _ 21 rfl rfl (hd _ (AM (i := 1) rfl) (by rfl))) rfl h.inv hl (hd _ (AM (i := 0) rfl) (by rfl)),
   fun L a w h hl hd => build_ok rfl rfl ⟨by decide, by decide, by decide⟩ (by rfl) (by decide) rfl rfl ⟨by decide, by decide, by decide, by decide⟩ h.inv hl,
   fun L a w h hl hd => ins_ok rfl rfl (h.val 22 _ 22 rfl rfl (hd _ (AM (i := 1) rfl) (by rfl))) rfl h.inv hl (hd _ (AM (i := 0) rfl) (by rfl)),
   fun L a w h hl hd => build_ok rfl rfl ⟨by decide, by decide, by decide⟩ (by rfl) (by decide) rfl rfl ⟨by decide, by decide, by decide, by decide⟩ h.inv hl,
   fun L a w h hl hd => ins_ok rfl rfl (h.val 24 _ 23 rfl rfl (hd _ (AM (i := 1) rfl) (by rfl))) rfl h.inv hl (hd _ (AM (i := 0) rfl) (by rfl)),
   fun L a w h hl hd => build_ok rfl rfl ⟨by decide, by decide, by decide⟩ (by rfl) (by decide) rfl rfl ⟨by decide, by decide, by decide, by decide⟩ h.inv hl,
   fun L a w h hl hd => ins_ok rfl rfl (h.val 26 _ 24 rfl rfl (hd _ (AM (i := 1) rfl) (by rfl))) rfl h.inv hl (hd _ (AM (i := 0) rfl) (by rfl)),
   fun L a w h hl hd => call_ok rfl rfl ⟨by decide, by decide, by decide⟩ rfl rfl rfl ⟨by decide, by decide, by decide, by decide⟩ h.inv hl,
   fun L a w h hl hd => build_ok (k := 6) rfl rfl ⟨by decide, by decide, by decide⟩ (show FnV (fnK 6) _ w from h.val 28 _ 25 rfl rfl (hd _ (AM (i := 0) rfl) (by rfl))) (by decide) rfl rfl ⟨by decide, by decide, by decide, by decide⟩ h.inv hl,
   fun L a w h hl hd => ins_ok rfl rfl (h.val 29 _ 26 rfl rfl (hd _ (AM (i := 1) rfl) (by rfl))) rfl h.inv hl (hd _ (AM (i := 0) rfl) (by rfl)),
   fun L a w h hl hd => call_ok rfl rfl ⟨by decide, by decide, by decide⟩ rfl rfl rfl ⟨by decide, by decide, by decide, by decide⟩ h.inv hl,
   fun L a w h hl hd => build_ok (k := 7) rfl rfl ⟨by decide, by decide, by decide⟩ (show FnV (fnK 7) _ w from h.val 31 _ 27 rfl rfl (hd _ (AM (i := 0) rfl) (by rfl))) (by decide) rfl rfl ⟨by decide, by decide, by decide, by decide⟩ h.inv hl,
   fun L a w h hl hd => ins_ok rfl rfl (h.val 32 _ 28 rfl rfl (hd _ (AM (i := 1) rfl) (by rfl))) rfl h.inv hl (hd _ (AM (i := 0) rfl) (by rfl)),
   fun L a w h hl hd => load_ok rfl rfl ⟨by decide, by decide, by decide⟩ (h.fix 3 (by kernel_rfl)) h.inv.c3 rfl (by decide) (by rfl) rfl ⟨by decide, by decide, by decide, by decide⟩ h.inv hl,
   fun L a w h hl hd => ins_ok rfl rfl (h.val 34 _ 29 rfl rfl (hd _ (AM (i := 1) rfl) (by rfl))) rfl h.inv hl (hd _ (AM (i := 0) rfl) (by rfl)),
   fun L a w h hl hd => load_ok rfl rfl ⟨by decide, by decide, by decide⟩ (h.fix 3 (by kernel_rfl)) h.inv.c3 rfl (by decide) (by rfl) rfl ⟨by decide, by decide, by decide, by decide⟩ h.inv hl,
   fun L a w h hl hd => ins_ok rfl rfl (h.val 36 _ 30 rfl rfl (hd _ (AM (i := 1) rfl) (by rfl))) rfl h.inv hl (hd _ (AM (i := 0) rfl) (by rfl)),
   fun L a w h hl hd => call_ok rfl rfl ⟨by decide, by decide, by decide⟩ rfl rfl rfl ⟨by decide, by decide, by decide, by decide⟩ h.inv hl,
   fun L a w h hl hd => build_ok (k := 10) rfl rfl ⟨by decide, by decide, by decide⟩ (show FnV (fnK 10) _ w from h.val 38 _ 31 rfl rfl (hd _ (AM (i := 0) rfl) (by rfl))) (by decide) rfl rfl ⟨by decide, by decide, by decide, by decide⟩ h.inv hl,
   fun L a w h hl hd => ins_ok rfl rfl (h.val 39 _ 32 rfl rfl (hd _ (AM (i := 1) rfl) (by rfl))) rfl h.inv hl (hd _ (AM (i := 0) rfl) (by rfl)),
   fun L a w h hl hd => call_ok rfl rfl ⟨by decide, by decide, by decide⟩ rfl rfl rfl ⟨by decide, by decide, by decide, by decide⟩ h.inv hl,
   fun L a w h hl hd => build_ok (k := 20) rfl rfl ⟨by decide, by decide, by decide⟩ (show FnV (fnK 20) _ w from h.val 41 _ 33 rfl rfl (hd _ (AM (i := 0) rfl) (by rfl))) (by decide) rfl rfl ⟨by decide, by decide, by decide, by decide⟩ h.inv hl,
   fun L a w h hl hd => ins_ok rfl rfl (h.val 42 _ 34 rfl rfl (hd _ (AM (i := 1) rfl) (by rfl))) rfl h.inv hl (hd _ (AM (i := 0) rfl) (by rfl)),
   fun L a w h hl hd => mv44 rfl rfl h.inv hl (hd _ (AM (i := 0) rfl) (by rfl)),
   fun L a w h hl hd => as45 rfl rfl h.inv hl (hd _ (AM (i := 0) rfl) (by rfl)), trivial⟩
 · intro L a' w' hI hall; have hE := hI.inv.end' hall; have hb := hI.inv.bel; have hsz := hI.sz; have hdf := hI.df; obtain ⟨T, D⟩ := a'; clear hI hall; simp only at hdf hsz; subst hdf; obtain ⟨x0, x1, x2, x3, x4, x5, x6, x7, x8, x9, x10, x11, x12, x13, x14, x15, x16, x17, x18, x19, x20, x21, x22, x23, x24, x25, x26, x27, x28, x29, x30, x31, x32, x33, x34, x35, rfl⟩ := arr36 T hsz; replace hE : EffM x0 w' := hE; clear hsz; replace hE := ZZ hE; replace hb := ZZ hb; go_wp2_with fail; go_ret; exact ⟨_, rfl, hE.out, hb.out⟩
end
def bt (s : ByteArray) (k : Nat) : Int := ((s.data.getD k 0).toNat : Int)
theorem bt_of {s : ByteArray} {k : Nat} (h : k < s.size) : ((s[k]'h).toNat : Int) = bt s k := by
 unfold bt; have h2 : k < s.data.size := h; rw [Array.getD_eq_getD_getElem?, Array.getElem?_eq_getElem h2]; rfl
def fitsF (t w : ByteArray) : Nat → Bool
 | 0 => true
 | k + 1 => fitsF t w k && (bt w k == 32 || bt w k == bt t k)
def fitsP (t w : ByteArray) : Bool := decide (t.size = w.size) && fitsF t w w.size
theorem fitsF_no {t w : ByteArray} {k : Nat} (h : fitsF t w (k + 1) = false) : ∀ n, k < n → fitsF t w n = false := by
 intro n; induction n with
 | zero => intro hn; omega
 | succ n ih =>
  intro hn; by_cases e : k = n
  · subst e; exact h
  · rw [fitsF, ih (by omega)]; rfl
def FiRel (w : World) (t x : ByteArray) (vi : Value) (wr : World) : Prop := ∃ k : Nat, k ≤ x.size ∧ vi = O Y k ∧ fitsF t x k = true ∧ Below w.heap.size w wr
theorem fits_any (t x : ByteArray) (w : World) (hs : x.size ≤ 1000) (hst : t.size ≤ 1000000) : Calls Tryz.prog 158 #[.string t, .string x] w fun e w' => e = .returned (.bool (fitsP t x)) ∧ Below w.heap.size w w' := by
 by_cases hsz : t.size = x.size
 · have hF := ZZ (show fitsP t x = fitsF t x x.size by unfold fitsP; rw [decide_eq_true hsz]; rfl); have d0 : ((t.size : Int) != (x.size : Int)) = false := by rw [hsz]; simp
   replace hsz := ZZ hsz; go_enter Tryz.func158, Tryz.ntmps158; go_wp2_with fail; go_loopw [13] (fun vi wr => FiRel w t x vi wr) (fun vi _ => x.size - (intOf vi).toNat); case atStart => exact ⟨0, by omega, rfl, rfl, BR _ _⟩
   case round =>
    obtain ⟨k, hk, rfl, hf, hb⟩ := hrel; replace hb := ZZ hb; by_cases hd : k < x.size
    · have b1 : ((k : Nat) : Int) < (x.size : Int) := by omega
      have b2 : decide (x.size ≤ k) = false := decide_eq_false (by omega); have b3 : (k : Int) ≤ 1000 := by omega
      have hkt : k < t.size := by have := hsz.out; omega
      have b4 : ((k : Nat) : Int) < (t.size : Int) := by omega
      have b5 : decide (t.size ≤ k) = false := decide_eq_false (by omega); have c1 := bt_of hd; have c2 := bt_of hkt; have hfs : fitsF t x (k + 1) = (bt x k == 32 || bt x k == bt t k) := by rw [fitsF, hf]; rfl
      generalize bt x k = p at *; generalize bt t k = q at *; replace hf := ZZ hf; by_cases hp : p = 32
      · have f1 : (p != 32) = false := by rw [hp]; rfl
        rw [hp] at hfs; replace hfs := ZZ hfs; replace hp := ZZ hp; go_wp2_with fail; refine st 14 (S := fun w' => True) (ds := []) trivial (fun hHeld => ?_); refine pq 0 ?_; refine pq 1 ?_; refine pq 2 ?_; refine pq 3 ?_ (v := .int .u8 32) (hy := by intro w'; go_simp; all_goals rfl); refine pq 4 ?_; refine pq 5 ?_; refine po 6 ?_; refine po 7 ?_; refine po 8 ?_; refine po 9 ?_; refine po 10 ?_; refine po 11 ?_; refine po 12 ?_; refine pq 13 ?_; refine dn ?_; go_wp2_with fail; exact ⟨⟨k + 1, hd, by go_num, hfs.out, hb.out.drew⟩, by simp [intOf]; omega⟩
      · have f1 : (p != 32) = true := bne_iff_ne.mpr hp; have hp2 : (p == 32) = false := beq_eq_false_iff_ne.mpr hp; rw [hp2, Bool.false_or] at hfs; replace hp := ZZ hp; replace hp2 := ZZ hp2; cases hq : (p == q)
        · have f2 : (p != q) = true := by rw [bne, hq]; rfl
          rw [hq] at hfs; have hn := ZZ (fitsF_no hfs x.size hd); replace hfs := ZZ hfs; replace hq := ZZ hq; go_wp2_with fail; refine st 14 (S := fun w' => True) (ds := []) trivial (fun hHeld => ?_); refine pq 0 ?_; refine pq 1 ?_; refine pq 2 ?_; refine pq 3 ?_ (v := .int .u8 32) (hy := by intro w'; go_simp; all_goals rfl); refine pq 4 ?_; refine pq 5 ?_; refine pq 6 ?_; refine pq 7 ?_; refine pq 8 ?_; refine pq 9 ?_; refine pq 10 ?_; refine pq 11 ?_; refine pq 12 ?_; refine pq 13 ?_; refine dn ?_; go_wp2_with fail; go_ret; exact ⟨by rw [hF.out, hn.out]; rfl, hb.out.drew⟩
        · have f2 : (p != q) = false := by rw [bne, hq]; rfl
          rw [hq] at hfs; replace hfs := ZZ hfs; replace hq := ZZ hq; go_wp2_with fail; refine st 14 (S := fun w' => True) (ds := []) trivial (fun hHeld => ?_); refine pq 0 ?_; refine pq 1 ?_; refine pq 2 ?_; refine pq 3 ?_ (v := .int .u8 32) (hy := by intro w'; go_simp; all_goals rfl); refine pq 4 ?_; refine pq 5 ?_; refine pq 6 ?_; refine pq 7 ?_; refine pq 8 ?_; refine pq 9 ?_; refine pq 10 ?_; refine pq 11 ?_; refine pq 12 ?_; refine pq 13 ?_; refine dn ?_; go_wp2_with fail; exact ⟨⟨k + 1, hd, by go_num, hfs.out, hb.out.drew⟩, by simp [intOf]; omega⟩
    · have b1 : ¬ (((k : Nat) : Int) < (x.size : Int)) := by omega
      have hke : k = x.size := by omega
      rw [hke] at hf; replace hf := ZZ hf; clear hk hd hke; go_wp2_with fail; go_ret; exact ⟨by rw [hF.out, hf.out]; rfl, hb.out⟩
 · have hF := ZZ (show fitsP t x = false by unfold fitsP; rw [decide_eq_false hsz]; rfl); have d0 : ((t.size : Int) != (x.size : Int)) = true := bne_iff_ne.mpr (by omega); replace hsz := ZZ hsz; go_enter Tryz.func158, Tryz.ntmps158; go_wp2_with fail; go_ret; exact ⟨by rw [hF.out]; rfl, BR _ _⟩
theorem f194_any (o p q : Int) (t s : ByteArray) (b : Nat) (w : World) (h : w.heap[b]? = some (.cells #[.string s] 9 (0, 0))) : Calls Tryz.prog 194 #[.agg #[O Y o, O Y p, O Y q], .string t, .pointer (some ⟨b, 0, none⟩)] w fun e w' => e = .returned (.string s) ∧ Below w.heap.size w w' := by
 have al := (BR w.heap.size w).alloc (NR _) (.cells #[O Y o, O Y p, O Y q] 127); have h2 := (al.block b (ltA h)).trans h; have q0 := bk h2 0 (.string s); replace h2 := ZZ h2; replace al := ZZ al; go_enter Tryz.func194, Tryz.ntmps194; go_wp2_with fail; go_ret; exact ⟨rfl, al.out⟩
theorem f166_any (o p q : Int) (t : ByteArray) (w : World) (ht : t.size ≤ 100) : Calls Tryz.prog 166 #[.agg #[O Y o, O Y p, O Y q], .string t] w fun e w' => e = .returned (.string (t ++ t)) ∧ Below w.heap.size w w' := by
 have al := ZZ ((BR w.heap.size w).alloc (NR _) (.cells #[O Y o, O Y p, O Y q] 127)); have hz : (t.size : Int) ≤ 100 := by omega
 go_enter Tryz.func166, Tryz.ntmps166; go_wp2_with fail; go_ret; exact ⟨rfl, al.out⟩
theorem f167_any (o p q : Int) (t : ByteArray) (w : World) (ht : t.size = 2) : Calls Tryz.prog 167 #[.agg #[O Y o, O Y p, O Y q], .string t] w fun e w' => e = .returned (.string (t.extract 1 2 ++ t.extract 0 1)) ∧ Below w.heap.size w w' := by
 have al := ZZ (((BR w.heap.size w).alloc (NR _) (.cells #[O Y o, O Y p, O Y q] 127)).drew); go_enter Tryz.func167, Tryz.ntmps167; go_wp2_with fail; refine st 6 (S := fun w' => True) (ds := []) trivial (fun hHeld => ?_); refine pq 0 ?_; refine pq 1 ?_; refine pq 2 ?_; refine pq 3 ?_; refine pq 4 ?_; refine pq 5 ?_; refine dn ?_; go_wp2_with fail; go_ret; exact ⟨rfl, al.out⟩
theorem f168_any (o p q : Int) (t : ByteArray) (w : World) : Calls Tryz.prog 168 #[.agg #[O Y o, O Y p, O Y q], .string t] w fun e w' => e = .returned (.string (if p = 11 ∨ p = 12 then bB else bI)) ∧ Below w.heap.size w w' := by
 have al := ZZ ((BR w.heap.size w).alloc (NR _) (.cells #[O Y o, O Y p, O Y q] 127)); by_cases h1 : p = 11
 · subst h1; go_enter Tryz.func168, Tryz.ntmps168; go_wp2_with fail; go_ret; exact ⟨rfl, al.out⟩
 · have f1 : (p == 11) = false := beq_eq_false_iff_ne.mpr h1; by_cases h2 : p = 12
   · subst h2; go_enter Tryz.func168, Tryz.ntmps168; go_wp2_with fail; go_ret; exact ⟨rfl, al.out⟩
   · have f2 : (p == 12) = false := beq_eq_false_iff_ne.mpr h2; rw [if_neg (by omega)]; replace h1 := ZZ h1; replace h2 := ZZ h2; go_enter Tryz.func168, Tryz.ntmps168; go_wp2_with fail; go_ret; exact ⟨rfl, al.out⟩
theorem takK_no {k : Int} (h : k ∉ effKeys) : takK k = bN := by
 unfold effKeys at h; simp only [List.mem_cons, List.not_mem_nil, or_false, not_or] at h; unfold takK; repeat rw [if_neg (by omega)]
theorem zero282 (w : World) : (zeroValue 282).run Tryz.prog w = .ok (.agg #[.string bN, .nilFunc]) w := by
 go_simp; rfl
theorem eff_look {v : Value} {w : World} {k : Int} (h : EffM v w) (hk : In64 k) (c : Bool) : ∃ f, (Instr.lookup 283 v (O Y k) c).run Tryz.prog w = .ok (if c then .tuple #[.agg #[.string (takK k), f], .bool (effKeys.contains k)] else .agg #[.string (takK k), f]) w ∧ (k ∈ effKeys → FnV (fnK k) f w) ∧ (k ∉ effKeys → f = .nilFunc) := by
 obtain ⟨m, ws, rfl, h1, h2, h3⟩ := h; by_cases hm : k ∈ effKeys
 · obtain ⟨u, hu⟩ := h3 k hm; obtain ⟨f, e1, e2⟩ := (h2 _ hu).2; simp only at e1 e2; subst e1; refine ⟨f, ?_, fun _ => e2, fun h => absurd hm h⟩; rw [h1.look Tryz.underlying283 k _ hu c, show effKeys.contains k = true by simpa using hm]
 · refine ⟨.nilFunc, ?_, fun h => absurd h hm, fun _ => rfl⟩; rw [h1.miss Tryz.underlying283 k hk (fun x hx e => hm (by rw [← e]; exact (h2 x hx).1)) _ (zero282 w) c, show effKeys.contains k = false by simpa using hm, takK_no hm]
theorem eff_look0 {v : Value} {w : World} {k : Int} (h : EffM v w) (hk : In64 k) : ∃ f, (Instr.lookup 283 v (O Y k) false).run Tryz.prog w = .ok (.agg #[.string (takK k), f]) w := by
 obtain ⟨f, h1, _⟩ := eff_look h hk false; exact ⟨f, h1⟩
theorem field282 (n : ByteArray) (f : Value) (w : World) : (Instr.field 282 (.agg #[.string n, f]) 0).run Tryz.prog w = .ok (.string n) w := by
 obtain ⟨i0, hi, hz⟩ := Option.map_eq_some_iff.1 (show (Tryz.prog.info? 9).map (·.size) = some 1 by kernel_rfl); simp [Instr.field, run_underlying Tryz.underlying282, asAgg, part, sizeOf, typeInfo, hi, hz, isAgg, run_underlying Tryz.underlying9]
theorem takes_any (o p q : Int) (w : World) (hr : rightI o p q = true) (ho : In64 o) : Calls Tryz.prog 157 #[.agg #[O Y o, O Y p, O Y q]] w fun e w' => e = .returned (.string (takK o)) ∧ Below w.heap.size w w' := by
 have h64 := ZZ ho; clear ho; have hR := right_any o p q (w.alloc (.cells #[O Y o, O Y p, O Y q] 127)); rw [hr] at hR; replace hR := ZZ hR; have al := ZZ ((BR w.heap.size w).alloc (NR _) (.cells #[O Y o, O Y p, O Y q] 127)); clear hr; go_enter Tryz.func157, Tryz.ntmps157; go_wp2_with fail; refine hR.out.mono ?_; rintro e w5 ⟨rfl, hb5⟩; have hB5 := ZZ (al.out.trans (hb5.mono al.out.size)); have hbl := (hb5.block _ (by simp)).trans (heap_alloc_last w (.cells #[O Y o, O Y p, O Y q] 127)); have hc0 := bk hbl 0 (O Y o); have hB := ZZ hB5.out.drew; clear hbl hb5 hR al hB5; go_wp2_with fail; refine st 6 (S := fun w' => w'.cell? ⟨w.heap.size, 0, none⟩ = some (O Y o)) (ds := [3]) hc0 (fun hHeld => ?_); refine pq 1 ?_; refine tk 2 hHeld ?_; refine rg1 0 (fun K hK => ?_); refine goes_ Tryz.func163 (by kernel_rfl) rfl #[] (by rfl) rfl rfl (by (try simp only [MA, List.map_cons, List.map_nil]); first | done | rfl) ?_; refine ((effects_any _)).mono ?_; rintro e w9 ⟨v, rfl, hE, hb9⟩; refine ⟨_, rfl, ?_⟩; have hB9 := ZZ (hB.out.trans (hb9.mono hB.out.size)); refine hK.out _ _ (cell_keep hb9 (NR _) hHeld) (fun hHeld => ?_); clear hK K; refine nm ?_; refine rg2 3 (fun K hK => ?_); obtain ⟨f, hlk⟩ := eff_look0 hE h64.out; have hfd := field282 (takK o) f; clear hE hb9; refine value_ (w1 := ?_) (v := ?_) (by rfl) rfl ?_ ?_; rotate_left 2
 · go_simp; constructor
   · rfl
   · rfl
 refine hK.out _ _ ?_; clear hK K; refine nm ?_; refine pq 4 ?_; refine pq 5 ?_; refine dn ?_; clear hlk hfd; go_wp2_with fail; go_ret; exact ⟨rfl, hB9.out⟩
theorem EffM.step {v : Value} {w w' : World} (h : EffM v w) (hb : Below w.heap.size w w') : EffM v w' := by
 obtain ⟨m, ws, e, h1, h2, h3⟩ := h; exact ⟨m, ws, e, h1.move (hb.block m h1.lt), fun x hx => ⟨(h2 x hx).1, (h2 x hx).2.step (GM.of_below hb)⟩, h3⟩
def inE (o : Int) : Bool := effKeys.contains o
def LookV (o : Int) (f : Value) (w : World) : Prop := (o ∈ effKeys → FnV (fnK o) f w) ∧ (o ∉ effKeys → f = .nilFunc)
theorem LookV.step {o : Int} {f : Value} {w w' : World} (h : LookV o f w) (hb : Below w.heap.size w w') : LookV o f w' := ⟨fun hm => (h.1 hm).step (GM.of_below hb), h.2⟩
theorem eff_look1 {v : Value} {w : World} {k : Int} (h : EffM v w) (hk : In64 k) : ∃ f, (Instr.lookup 283 v (O Y k) true).run Tryz.prog w = .ok (.tuple #[.agg #[.string (takK k), f], .bool (inE k)]) w ∧ LookV k f w := by
 obtain ⟨f, h1, h2⟩ := eff_look h hk true; exact ⟨f, h1, h2⟩
theorem store_f {W : World} {o : Int} {f : Value} (hf : LookV o f W) (p : Addr) (W' : World) (m : Mode) : (store p f m).run Tryz.prog W' = stored Tryz.prog W' p f m := by
 by_cases hm : o ∈ effKeys
 · have hF := hf.1 hm; revert hF; cases fnK o with
   | const s => rintro ⟨b, rfl, -⟩; exact run_store_func ..
   | dup => intro hF; have hF : f = .func (.func 166) #[] #[] := hF; subst hF; exact run_store_func ..
   | swap => intro hF; have hF : f = .func (.func 167) #[] #[] := hF; subst hF; exact run_store_func ..
   | two => intro hF; have hF : f = .func (.func 168) #[] #[] := hF; subst hF; exact run_store_func ..
 · rw [hf.2 hm]; exact run_store_nilFunc ..
theorem LookV.put {W : World} {o : Int} {f x : Value} {g k : Nat} {c : Array Value} {z : Nat × Nat} (hf : LookV o f W) (hG : W.heap[g]? = some (.cells c 282 z)) : LookV o f (W.setCell ⟨g, k, none⟩ x) := by
 refine ⟨fun hm => ?_, hf.2⟩; have h := hf.1 hm; revert h; cases fnK o with
 | const s =>
  rintro ⟨b, h1, h2⟩; exact ⟨b, h1, (BH _ _ _ _ (by show b ≠ g; intro e; rw [e, hG] at h2; cases h2)).trans h2⟩
 | dup => exact fun h => h
 | swap => exact fun h => h
 | two => exact fun h => h
def givF : FnS → Int → ByteArray → ByteArray
 | .const s, _, _ => s
 | .dup, _, t => t ++ t
 | .swap, _, t => t.extract 1 2 ++ t.extract 0 1
 | .two, p, _ => if p = 11 ∨ p = 12 then bB else bI
def givP (o p : Int) (t : ByteArray) : ByteArray := if (inE o && fitsP t (takK o)) = true then givF (fnK o) p t else bN
theorem fnK_swap {k : Int} (h : fnK k = .swap) : k = 4 := by
 unfold fnK at h; by_cases h3 : k = 3
 · rw [if_pos h3] at h; cases h
 · by_cases h4 : k = 4
   · exact h4
   · rw [if_neg h3, if_neg h4] at h; repeat' split at h
     all_goals cases h
theorem takK_le (k : Int) : (takK k).size ≤ 2 := by
 unfold takK; repeat' split
 all_goals decide
theorem fits_size {t x : ByteArray} (h : fitsP t x = true) : t.size = x.size := by
 unfold fitsP at h; simp only [Bool.and_eq_true, decide_eq_true_eq] at h; exact h.1
structure GvA (w : World) (o p q : Int) (u : World) : Prop where
 bel : Below w.heap.size w u
 blk : u.heap[w.heap.size]? = some (.cells #[O Y o, O Y p, O Y q] 127 (0, 0))
theorem GvA.step {w u u' : World} {o p q : Int} (h : GvA w o p q u) (hb : Below u.heap.size u u') : GvA w o p q u' := ⟨h.bel.trans (hb.mono h.bel.size), (hb.block _ (ltA h.blk)).trans h.blk⟩
theorem gives_any (o p q : Int) (t : ByteArray) (w : World) (hr : rightI o p q = true) (ho : In64 o) (ht : t.size ≤ 1000000) : Calls Tryz.prog 159 #[.agg #[O Y o, O Y p, O Y q], .string t] w fun e w' => e = .returned (.string (givP o p t)) ∧ Below w.heap.size w w' := by
 have h64 := ZZ ho; clear ho; replace hr := ZZ hr; replace ht := ZZ ht; have hc0 : (w.alloc (.cells #[O Y o, O Y p, O Y q] 127)).drew.cell? ⟨w.heap.size, 0, none⟩ = some (O Y o) := (blk_cell (heap_alloc_last w (.cells #[O Y o, O Y p, O Y q] 127)) 0).trans rfl; have hA : GvA w o p q (w.alloc (.cells #[O Y o, O Y p, O Y q] 127)).drew := ⟨((BR w.heap.size w).alloc (NR _) _).drew, heap_alloc_last w _⟩
 go_enter Tryz.func159, Tryz.ntmps159; go_wp2_with fail; refine st 10 (S := fun w' => w'.cell? ⟨w.heap.size, 0, none⟩ = some (O Y o)) (ds := [8]) hc0 (fun hHeld => ?_); generalize hu0 : (w.alloc (.cells #[O Y o, O Y p, O Y q] 127)).drew = u0 at *; refine pq 1 ?_; refine tk 2 hHeld ?_; refine join_ (σ := Value × Value × Nat) 2 #[true, true, true, true, true, true, true, true, false, false] (fun s => [(8, s.1), (11, .tuple #[.agg #[.string (takK o), s.2.1], .bool (inE o)]), (7, .tuple #[.agg #[.string (takK o), s.2.1], .bool (inE o)]), (12, .agg #[.string (takK o), s.2.1]), (13, .bool (inE o)), (5, .pointer (some ⟨s.2.2, 0, none⟩))]) (fun s w' => GvA w o p q w' ∧ LookV o s.2.1 w' ∧ w'.heap[s.2.2]? = some (.cells #[.string ⟨#[]⟩, .nilFunc] 282 (0, 0)) ∧ w.heap.size ≤ s.2.2) ?_ (fun hJ => ?_); rotate_left
 · skip; refine two_ (i := 0) (j := 7) (Ni := some 8) (Nj := some 5) #[true, true, true, false, false, false, false, false, false, false] #[false, true, true, false, false, false, false, true, false, false] rfl rfl rfl rfl (by kernel_rfl) (by decide) (by decide) (fun K hK => ?_) (fun K hK => ?_)
   · skip; refine goes_ Tryz.func163 (by kernel_rfl) rfl #[] (by rfl) rfl rfl (by (try simp only [MA, List.map_cons, List.map_nil]); first | done | rfl) ?_; refine (effects_any _).mono ?_; rintro e w1 ⟨v, rfl, hE, hb⟩; refine ⟨_, rfl, ?_⟩; replace hA := hA.step hb; refine hK.out _ _ (cell_keep hb (NR _) hHeld) (fun hHeld => ?_); clear hK K; refine nm ?_; refine two_ (i := 3) (j := 7) (Ni := some 11) (Nj := some 5) #[true, true, true, true, false, false, false, false, false, false] #[true, true, true, false, false, false, false, true, false, false] rfl rfl rfl rfl (by kernel_rfl) (by decide) (by decide) (fun K hK => ?_) (fun K hK => ?_)
     · skip; obtain ⟨f, hlk, hf⟩ := eff_look1 hE h64.out; refine value_ (w1 := ?_) (v := ?_) (by rfl) rfl ?_ ?_; rotate_left 2
       · go_simp; constructor
         · rfl
         · rfl
       refine hK.out _ _ hHeld (fun hHeld => ?_); clear hK K; refine nm ?_; clear hlk; refine pq 4 ?_; refine pq 5 ?_; refine pq 6 ?_; refine rg1 7 (fun K hK => ?_); refine value_ (w1 := ?_) (v := ?_) (by rfl) rfl ?_ ?_; rotate_left 2
       · go_simp; constructor
         · rfl
         · rfl
       have hb := (BR w1.heap.size w1).alloc (NR _) (.cells #[.string ⟨#[]⟩, .nilFunc] 282); have hge := hA.bel.size; replace hA := hA.step hb; have hG := heap_alloc_last w1 (.cells #[.string ⟨#[]⟩, .nilFunc] 282); replace hf := hf.step hb; refine hK.out _ _ (cell_keep hb (NR _) hHeld) (fun hHeld => ?_); clear hK K; refine nm ?_; have hq := hJ (v, f, w1.heap.size) _ ⟨hA, hf, hG, hge⟩; simp only [putAll, Act.put, List.setIfInBounds_toArray, List.set_cons_zero, List.set_cons_succ] at hq; exact hq
     · skip; refine value_ (w1 := ?_) (v := ?_) (by rfl) rfl ?_ ?_; rotate_left 2
       · go_simp; constructor
         · rfl
         · rfl
       have hb := (BR w1.heap.size w1).alloc (NR _) (.cells #[.string ⟨#[]⟩, .nilFunc] 282); have hge := hA.bel.size; replace hA := hA.step hb; have hG := heap_alloc_last w1 (.cells #[.string ⟨#[]⟩, .nilFunc] 282); replace hE := hE.step hb; refine hK.out _ _ (cell_keep hb (NR _) hHeld) (fun hHeld => ?_); clear hK K; refine nm ?_; refine rg1 3 (fun K hK => ?_); obtain ⟨f, hlk, hf⟩ := eff_look1 hE h64.out; refine value_ (w1 := ?_) (v := ?_) (by rfl) rfl ?_ ?_; rotate_left 2
       · go_simp; constructor
         · rfl
         · rfl
       refine hK.out _ _ hHeld (fun hHeld => ?_); clear hK K; refine nm ?_; clear hlk; refine pq 4 ?_; refine pq 5 ?_; refine pq 6 ?_; have hq := hJ (v, f, w1.heap.size) _ ⟨hA, hf, hG, hge⟩; simp only [putAll, Act.put, List.setIfInBounds_toArray, List.set_cons_zero, List.set_cons_succ] at hq; exact hq
   · skip; refine value_ (w1 := ?_) (v := ?_) (by rfl) rfl ?_ ?_; rotate_left 2
     · go_simp; constructor
       · rfl
       · rfl
     have hb := (BR u0.heap.size u0).alloc (NR _) (.cells #[.string ⟨#[]⟩, .nilFunc] 282); have hge := hA.bel.size; replace hA := hA.step hb; have hG := heap_alloc_last u0 (.cells #[.string ⟨#[]⟩, .nilFunc] 282); refine hK.out _ _ (cell_keep hb (NR _) hHeld) (fun hHeld => ?_); clear hK K; refine nm ?_; refine rg1 0 (fun K hK => ?_); refine goes_ Tryz.func163 (by kernel_rfl) rfl #[] (by rfl) rfl rfl (by (try simp only [MA, List.map_cons, List.map_nil]); first | done | rfl) ?_; refine (effects_any _).mono ?_; rintro e w1 ⟨v, rfl, hE, hb⟩; refine ⟨_, rfl, ?_⟩; replace hA := hA.step hb; replace hG := (hb.block _ (ltA hG)).trans hG; refine hK.out _ _ (cell_keep hb (NR _) hHeld) (fun hHeld => ?_); clear hK K; refine nm ?_; refine rg1 3 (fun K hK => ?_); obtain ⟨f, hlk, hf⟩ := eff_look1 hE h64.out; refine value_ (w1 := ?_) (v := ?_) (by rfl) rfl ?_ ?_; rotate_left 2
     · go_simp; constructor
       · rfl
       · rfl
     refine hK.out _ _ hHeld (fun hHeld => ?_); clear hK K; refine nm ?_; clear hlk; refine pq 4 ?_; refine pq 5 ?_; refine pq 6 ?_; have hq := hJ (v, f, u0.heap.size) _ ⟨hA, hf, hG, hge⟩; simp only [putAll, Act.put, List.setIfInBounds_toArray, List.set_cons_zero, List.set_cons_succ] at hq; exact hq
 clear hA; rintro ⟨v, f, g⟩ u9 ⟨hA, hf, hG, hge⟩; dsimp only at hf hG hge; refine norm_ (a' := ?_) ?_ ?_; rotate_left
 · show putAll _ _ = _; simp only [putAll, Act.put, List.setIfInBounds_toArray, List.set_cons_zero, List.set_cons_succ]; rfl
 refine rg2 8 (fun K hK => ?_); have hst := store_f hf ⟨g, 1, none⟩ (u9.setCell ⟨g, 0, none⟩ (.string (takK o))); have q0 := bk hG 0 (.string ⟨#[]⟩); have q1 := blk_frozen hG 0; have h2 : (u9.setCell ⟨g, 0, none⟩ (.string (takK o))).heap[g]? = some (.cells #[.string (takK o), .nilFunc] 282 (0, 0)) := blk_set hG 0 _; have q2 := (blk_cell h2 1).trans (rfl : _ = some Value.nilFunc); have q3 := blk_frozen h2 1; refine skip_ (w1 := ?_) (by rfl) rfl ?_ ?_; rotate_left
 · go_simp; rfl
 refine hK.out _ _ ?_; clear hK K; refine pq 9 ?_; refine dn ?_; have hG2 : ((u9.setCell ⟨g, 0, none⟩ (.string (takK o))).setCell ⟨g, 1, none⟩ f).heap[g]? = some (.cells #[.string (takK o), f] 282 (0, 0)) := blk_set h2 1 _; have hf2 := (hf.put hG (k := 0) (x := .string (takK o))).put h2 (k := 1) (x := f); have hgn : w.heap.size ≠ g := fun e => by have h := hA.blk; rw [e, hG] at h; cases h
 have hA2 : GvA w o p q ((u9.setCell ⟨g, 0, none⟩ (.string (takK o))).setCell ⟨g, 1, none⟩ f) := ⟨(hA.bel.setCell (p := ⟨g, 0, none⟩) (by exact hge) _).setCell (p := ⟨g, 1, none⟩) (by exact hge) _, (BH _ _ _ _ (by show w.heap.size ≠ g; exact hgn)).trans ((BH _ _ _ _ (by show w.heap.size ≠ g; exact hgn)).trans hA.blk)⟩
 generalize (u9.setCell ⟨g, 0, none⟩ (.string (takK o))).setCell ⟨g, 1, none⟩ f = u10 at *; clear hst q0 q1 h2 q2 q3 hA hf hG hge hgn hu0 hHeld hc0; cases hc : inE o
 · have hP := ZZ (show givP o p t = bN by unfold givP; rw [hc]; rfl); replace hA2 := ZZ hA2; clear hG2 hf2; go_wp2_with fail; go_ret; exact ⟨by rw [hP.out]; rfl, hA2.out.bel⟩
 · have hm : o ∈ effKeys := by unfold inE at hc; simpa using hc
   have y0 := bk hA2.blk 0 (O Y o); have y1 := bk hA2.blk 1 (O Y p); have y2 := bk hA2.blk 2 (O Y q); have hR := right_any o p q u10; rw [hr.out] at hR; replace hR := ZZ hR; replace hA2 := ZZ hA2; replace hf2 := ZZ hf2; replace hG2 := ZZ hG2; replace hm := ZZ hm; go_wp2_with fail; refine hR.out.mono ?_; rintro e w5 ⟨rfl, hb5⟩; have hA3 := hA2.out.step hb5; have hf3 := hf2.out.step hb5; have hG3 := (hb5.block _ (ltA hG2.out)).trans hG2.out; have z0 := bk hG3 0 (.string (takK o)); have hFi := ZZ (fits_any t (takK o) w5 (Nat.le_trans (takK_le o) (by decide)) ht.out); clear y0 y1 y2 hR hA2 hf2 hG2 hb5; replace hA3 := ZZ hA3; replace hf3 := ZZ hf3; replace hG3 := ZZ hG3; go_wp2_with fail; refine hFi.out.mono ?_; rintro e w6 ⟨rfl, hb6⟩; have hA4 := hA3.out.step hb6; have hf4 := hf3.out.step hb6; have hG4 := (hb6.block _ (ltA hG3.out)).trans hG3.out; clear z0 hFi hA3 hf3 hG3 hb6; cases hfi : fitsP t (takK o)
   · have hP := ZZ (show givP o p t = bN by unfold givP; rw [hfi, Bool.and_false]; rfl); replace hA4 := ZZ hA4; clear hf4 hG4; go_wp2_with fail; go_ret; exact ⟨by rw [hP.out]; rfl, hA4.out.bel⟩
   · have hP := (show givP o p t = givF (fnK o) p t by unfold givP; rw [hfi, hc]; rfl)
     have hsz := fits_size hfi; have y0 := bk hA4.blk 0 (O Y o); have y1 := bk hA4.blk 1 (O Y p); have y2 := bk hA4.blk 2 (O Y q); have z1 := (blk_cell hG4 1).trans (rfl : _ = some f); have hF := hf4.1 hm.out; have htl := takK_le o; replace hA4 := ZZ hA4; replace hG4 := ZZ hG4; replace hfi := ZZ hfi; clear hf4; cases hk : fnK o with
     | const s =>
      rw [hk] at hF hP; obtain ⟨b, rfl, hb⟩ := hF; have hC := ZZ (f194_any o p q t s b w6 hb); replace hP := ZZ hP; replace hb := ZZ hb; replace hsz := ZZ hsz; replace htl := ZZ htl; replace hk := ZZ hk; go_wp2_with fail; refine hC.out.mono ?_; rintro e w7 ⟨rfl, hb7⟩; replace hb7 := ZZ hb7; go_wp2_with fail; go_ret; exact ⟨by rw [hP.out]; rfl, (hA4.out.step hb7.out).bel⟩
     | dup =>
      rw [hk] at hF hP; have hF : f = .func (.func 166) #[] #[] := hF; subst hF; have hC := ZZ (f166_any o p q t w6 (by omega)); replace hP := ZZ hP; replace hsz := ZZ hsz; replace htl := ZZ htl; replace hk := ZZ hk; go_wp2_with fail; refine hC.out.mono ?_; rintro e w7 ⟨rfl, hb7⟩; replace hb7 := ZZ hb7; go_wp2_with fail; go_ret; exact ⟨by rw [hP.out]; rfl, (hA4.out.step hb7.out).bel⟩
     | swap =>
      rw [hk] at hF hP; have hF : f = .func (.func 167) #[] #[] := hF; subst hF; have h4 := fnK_swap hk; have hC := ZZ (f167_any o p q t w6 (by rw [hsz, h4]; rfl)); replace hP := ZZ hP; replace hsz := ZZ hsz; replace htl := ZZ htl; replace hk := ZZ hk; replace h4 := ZZ h4; go_wp2_with fail; refine hC.out.mono ?_; rintro e w7 ⟨rfl, hb7⟩; replace hb7 := ZZ hb7; go_wp2_with fail; go_ret; exact ⟨by rw [hP.out]; rfl, (hA4.out.step hb7.out).bel⟩
     | two =>
      rw [hk] at hF hP; have hF : f = .func (.func 168) #[] #[] := hF; subst hF; have hC := f168_any o p q t w6; obtain ⟨s2, hs2⟩ : ∃ s2, (if p = 11 ∨ p = 12 then bB else bI) = s2 := ⟨_, rfl⟩
      rw [hs2] at hC; rw [show givF .two p t = s2 from hs2] at hP; replace hs2 := ZZ hs2; replace hC := ZZ hC; replace hP := ZZ hP; replace hsz := ZZ hsz; replace htl := ZZ htl; replace hk := ZZ hk; go_wp2_with fail; refine hC.out.mono ?_; rintro e w7 ⟨rfl, hb7⟩; replace hb7 := ZZ hb7; go_wp2_with fail; go_ret; exact ⟨by rw [hP.out]; rfl, (hA4.out.step hb7.out).bel⟩
def afterP (o p : Int) (s : ByteArray) : ByteArray × Int := if s.size < (takK o).size then (bN, 9) else
 if fitsP (s.extract (s.size - (takK o).size) s.size) (takK o) = false then (bN, 10) else
 if 16 < (s.extract 0 (s.size - (takK o).size) ++ givP o p (s.extract (s.size - (takK o).size) s.size)).size then (bN, 9) else (s.extract 0 (s.size - (takK o).size) ++ givP o p (s.extract (s.size - (takK o).size) s.size), 0)
theorem fnK_const {k : Int} {s : ByteArray} (h : fnK k = .const s) : s.size ≤ 1 := by
 unfold fnK at h; repeat' split at h
 all_goals first | (cases h; done) | (injection h with h; subst h; decide)
theorem ext_le (s : ByteArray) (a b : Nat) : (s.extract a b).size ≤ b - a := by
 rw [ByteArray.size_extract]; omega
theorem givP_le (o p : Int) (t : ByteArray) : (givP o p t).size ≤ 4 := by
 unfold givP; split
 · rename_i h; simp only [Bool.and_eq_true] at h; have h1 := fits_size h.2; have h2 := takK_le o; cases hk : fnK o with
   | const s => have := fnK_const hk; simp only [givF]; omega
   | dup => simp only [givF, ByteArray.size_append]; omega
   | swap =>
    have e1 := ext_le t 1 2; have e2 := ext_le t 0 1; simp only [givF, ByteArray.size_append]; omega
   | two =>
    simp only [givF]; split <;> decide
 · decide
theorem after_any (o p q : Int) (s : ByteArray) (w : World) (hr : rightI o p q = true) (ho : In64 o) (hs : s.size ≤ 16) : Calls Tryz.prog 140 #[.agg #[O Y o, O Y p, O Y q], .string s] w fun e w' => e = .returned (.tuple #[.string (afterP o p s).1, O Y (afterP o p s).2]) ∧ Below w.heap.size w w' := by
 have h64 := ZZ ho; clear ho; replace hr := ZZ hr; have hA : GvA w o p q (w.alloc (.cells #[O Y o, O Y p, O Y q] 127)) := ⟨((BR w.heap.size w).alloc (NR _) _), heap_alloc_last w _⟩
 replace hA := ZZ hA; have hTk := takes_any o p q (w.alloc (.cells #[O Y o, O Y p, O Y q] 127)) hr.out h64.out; replace hTk := ZZ hTk; have hk2 := takK_le o; obtain ⟨nk, htk⟩ : ∃ nk, (takK o).size = nk := ⟨_, rfl⟩
 rw [htk] at hk2; go_enter Tryz.func140, Tryz.ntmps140; go_wp2_with fail; refine hTk.out.mono ?_; rintro e u0 ⟨rfl, hb⟩; have hA0 := hA.out.step hb; clear hTk hb hA; by_cases hlt : s.size < nk
 · have hP := ZZ (show afterP o p s = (bN, 9) by unfold afterP; rw [if_pos (by omega)]); replace hA0 := ZZ hA0; have d0 : decide ((s.size : Int) - (nk : Int) < 0) = true := decide_eq_true (by omega); have d1 : (s.size : Int) - (nk : Int) < 0 := by omega
   have d2 : wrap64 ((s.size : Int) - (nk : Int)) = (s.size : Int) - (nk : Int) := wrapIn (by omega); replace hs := ZZ hs; replace hlt := ZZ hlt; replace hk2 := ZZ hk2; go_wp2_with fail; refine bodyPost_ret (results_tmp2 rfl _ _ _) rfl ?_; exact ⟨by rw [hP.out]; rfl, hA0.out.bel⟩
 · obtain ⟨m, hm⟩ : ∃ m : Nat, s.size - nk = m := ⟨_, rfl⟩
   have e0 : (s.size : Int) - (nk : Int) = (m : Int) := by omega
   have hms : m ≤ s.size := by omega
   have e1 : wrap64 (m : Int) = (m : Int) := wrapIn (by omega); have e3 : (m : Int) ≤ (s.size : Int) := by omega
   have e4 : (s.size : Int) ≤ 16 := by omega
   have y0 : u0.drew.cell? _ = _ := bk hA0.blk 0 (O Y o); have y1 : u0.drew.cell? _ = _ := bk hA0.blk 1 (O Y p); have y2 : u0.drew.cell? _ = _ := bk hA0.blk 2 (O Y q); have hA1 := hA0.step (BR _ _).drew; obtain ⟨T, hT⟩ : ∃ T, s.extract m s.size = T := ⟨_, rfl⟩
   have htl : Hid (T.size ≤ 1000000) := ZZ (by rw [← hT]; have := ext_le s m s.size; omega); have hP := (show afterP o p s = if fitsP T (takK o) = false then (bN, 10) else if 16 < (s.extract 0 m ++ givP o p T).size then (bN, 9) else (s.extract 0 m ++ givP o p T, 0) by unfold afterP; rw [if_neg (by omega), htk, hm, hT])
   have hE1 := ext_le s 0 m; have hE2 := givP_le o p T; have htk' := htk; replace htk : Hid ((takK o).size ≤ 1000) := ZZ (by omega); replace hlt := ZZ hlt; replace hP := ZZ hP; replace hm := ZZ hm; replace hE1 := ZZ hE1; replace hE2 := ZZ hE2; clear hA0 hs; go_wp2_with fail; refine st 7 (S := fun w' => w'.cell? ⟨w.heap.size, 0, none⟩ = some (O Y o) ∧ w'.cell? ⟨w.heap.size, 1, none⟩ = some (O Y p) ∧ w'.cell? ⟨w.heap.size, 2, none⟩ = some (O Y q)) (ds := [4, 5]) ⟨y0, y1, y2⟩ (fun hHeld => ?_); generalize u0.drew = u1 at *; refine pq 0 ?_; refine pq 1 ?_; refine pq 2 ?_ (v := .string T) (hy := by intro w'; go_simp; all_goals simp_all); refine tk 3 hHeld ?_; refine rg2 4 (fun K hK => ?_); refine goes_ Tryz.func157 (by kernel_rfl) rfl #[_] (by rfl) rfl rfl (by (try simp only [MA, List.map_cons, List.map_nil]); first | done | rfl) ?_; refine ((takes_any o p q _ hr.out h64.out)).mono ?_; rintro e w3 ⟨rfl, hb⟩; refine ⟨_, rfl, ?_⟩; have hA2 := hA1.step hb; refine hK.out _ _ ?_; clear hK K; refine nm ?_; refine rg2 5 (fun K hK => ?_); refine goes_ Tryz.func158 (by kernel_rfl) rfl #[_, _] (by rfl) rfl rfl (by (try simp only [MA, List.map_cons, List.map_nil]); first | done | rfl) ?_; refine ((fits_any _ (takK o) _ htk.out htl.out)).mono ?_; rintro e w4 ⟨rfl, hb⟩; refine ⟨_, rfl, ?_⟩; have hA3 := hA2.step hb; refine hK.out _ _ ?_; clear hK K; refine nm ?_; refine pq 6 ?_; refine dn ?_; clear htk'; cases hfi : fitsP T (takK o)
   · have hP := hP.out; rw [hfi, if_pos rfl] at hP; replace hP := ZZ hP; replace hA3 := ZZ hA3; go_wp2_with fail; refine bodyPost_ret (results_tmp2 rfl _ _ _) rfl ?_; exact ⟨by rw [hP.out]; rfl, hA3.out.bel⟩
   · have hP := hP.out; rw [hfi] at hP; have y0 : w4.drew.cell? _ = _ := bk hA3.blk 0 (O Y o); have y1 : w4.drew.cell? _ = _ := bk hA3.blk 1 (O Y p); have y2 : w4.drew.cell? _ = _ := bk hA3.blk 2 (O Y q); have hA4 := hA3.step (BR _ _).drew; have hsz : (s.extract 0 m ++ givP o p T).size = m + (givP o p T).size := by rw [ByteArray.size_append, ByteArray.size_extract]; omega
     have hE3 := hE2.out; have hno : ¬ (9223372036854775807 < m + (givP o p T).size) := by omega
     have hP2 := hP; rw [hsz, if_neg (by decide)] at hP2; replace hsz := ZZ hsz; replace hP2 := ZZ hP2; replace hE3 := ZZ hE3; clear hP; go_wp2_with fail; refine st 10 (S := fun w' => w'.cell? ⟨w.heap.size, 0, none⟩ = some (O Y o) ∧ w'.cell? ⟨w.heap.size, 1, none⟩ = some (O Y p) ∧ w'.cell? ⟨w.heap.size, 2, none⟩ = some (O Y q)) (ds := [7]) ⟨y0, y1, y2⟩ (fun hHeld => ?_); generalize w4.drew = u2 at *; refine pq 0 ?_; refine pq 1 ?_; refine pq 2 ?_; refine pq 4 ?_; refine pq 5 ?_; refine pq 6 ?_; refine tk 3 hHeld ?_; refine rg2 7 (fun K hK => ?_); refine goes_ Tryz.func159 (by kernel_rfl) rfl #[_, _] (by rfl) rfl rfl (by (try simp only [MA, List.map_cons, List.map_nil]); first | done | rfl) ?_; refine ((gives_any o p q T _ hr.out h64.out htl.out)).mono ?_; rintro e w5 ⟨rfl, hb⟩; refine ⟨_, rfl, ?_⟩; have hA5 := hA4.step hb; refine hK.out _ _ ?_; clear hK K; refine nm ?_; refine pq 8 ?_; refine pq 9 ?_; refine dn ?_; clear y0 y1 y2 hHeld hA1 hA2 hA3 hA4 hb; replace hA5 := ZZ hA5; by_cases hg : 16 < m + (givP o p T).size
     · rw [if_pos hg] at hP2; have b1 : (16 : Int) < (m : Int) + ((givP o p T).size : Int) := by omega
       replace hg := ZZ hg; go_wp2_with fail; refine bodyPost_ret (results_tmp2 rfl _ _ _) rfl ?_; exact ⟨by rw [hP2.out]; rfl, hA5.out.bel⟩
     · rw [if_neg hg] at hP2; have b1 : ¬ ((16 : Int) < (m : Int) + ((givP o p T).size : Int)) := by omega
       replace hg := ZZ hg; go_wp2_with fail; refine bodyPost_ret (results_tmp2 rfl _ _ _) rfl ?_; exact ⟨by rw [hP2.out]; rfl, hA5.out.bel⟩
section
def arrV {α : Type} (f : α → Value) (L : List α) : Array Value := (L.map f).toArray
theorem arrV_set {α : Type} (f : α → Value) (L : List α) (k : Nat) (x : α) : (arrV f L).setIfInBounds k (f x) = arrV f (L.set k x) := by unfold arrV; simp [List.map_set]
theorem arrV_get {α : Type} (f : α → Value) (L : List α) (k : Nat) (x : α) (h : L[k]? = some x) : (arrV f L)[k]? = some (f x) := by unfold arrV; simp [h]
structure FlS where
 S : List ByteArray
 B : List Bool
 C : List Bool
def handF (fl : FlS) (k : Nat) (s : ByteArray) : FlS := ⟨fl.S.set k s, fl.B.set k true, if (fl.B.getD k false && !((fl.S.getD k bN).toList == s.toList)) = true then fl.C.set k true else fl.C⟩
structure FlowAt (w W : World) (gf gs gb gc n : Nat) (fl : FlS) : Prop where
 bel : Below w.heap.size w W
 f : W.heap[gf]? = some (.cells #[.slice (some ⟨gs, 0, none⟩) n n, .slice (some ⟨gb, 0, none⟩) n n, .slice (some ⟨gc, 0, none⟩) n n] 225 (0, 0))
 s : W.heap[gs]? = some (.cells (arrV Value.string fl.S) 9 (0, 0))
 b : W.heap[gb]? = some (.cells (arrV Value.bool fl.B) 4 (0, 0))
 c : W.heap[gc]? = some (.cells (arrV Value.bool fl.C) 4 (0, 0))
 ls : fl.S.length = n
 lb : fl.B.length = n
 lc : fl.C.length = n
 ne : gb ≠ gc
 lo : w.heap.size ≤ gf ∧ w.heap.size ≤ gs ∧ w.heap.size ≤ gb ∧ w.heap.size ≤ gc
section
variable {w W : World} {gf gs gb gc n : Nat} {fl : FlS}
theorem FlowAt.step {W' : World} (h : FlowAt w W gf gs gb gc n fl) (hb : Below W.heap.size W W') : FlowAt w W' gf gs gb gc n fl := by
 have k := fun {g : Nat} {o : Obj} (e : W.heap[g]? = some o) => (hb.block g (ltA e)).trans e; exact ⟨h.bel.trans (hb.mono h.bel.size), k h.f, k h.s, k h.b, k h.c, h.ls, h.lb, h.lc, h.ne, h.lo⟩
theorem cells_ne {W : World} {g g' : Nat} {c c' : Array Value} {t t' : TypeId} {z z' : Nat × Nat} (h : W.heap[g]? = some (.cells c t z)) (h' : W.heap[g']? = some (.cells c' t' z')) (ht : t ≠ t') : g ≠ g' := by
 intro e; subst e; rw [h] at h'; injection h' with h'
 injection h' with _ h' _
 exact ht h'
theorem FlowAt.putS (h : FlowAt w W gf gs gb gc n fl) (k : Nat) (x : ByteArray) : FlowAt w (W.setCell ⟨gs, k, none⟩ (.string x)) gf gs gb gc n ⟨fl.S.set k x, fl.B, fl.C⟩ :=
 ⟨h.bel.setCell (by exact h.lo.2.1) _, (BH _ _ _ _ (by exact cells_ne h.f h.s (by decide))).trans h.f, by rw [← arrV_set]; exact blk_set h.s k _, (BH _ _ _ _ (by exact cells_ne h.b h.s (by decide))).trans h.b, (BH _ _ _ _ (by exact cells_ne h.c h.s (by decide))).trans h.c, by simp [h.ls], h.lb, h.lc, h.ne, h.lo⟩
theorem FlowAt.putB (h : FlowAt w W gf gs gb gc n fl) (k : Nat) (x : Bool) : FlowAt w (W.setCell ⟨gb, k, none⟩ (.bool x)) gf gs gb gc n ⟨fl.S, fl.B.set k x, fl.C⟩ :=
 ⟨h.bel.setCell (by exact h.lo.2.2.1) _, (BH _ _ _ _ (by exact cells_ne h.f h.b (by decide))).trans h.f, (BH _ _ _ _ (by exact cells_ne h.s h.b (by decide))).trans h.s, by rw [← arrV_set]; exact blk_set h.b k _, (BH _ _ _ _ (by exact fun e => h.ne e.symm)).trans h.c, h.ls, by simp [h.lb], h.lc, h.ne, h.lo⟩
theorem FlowAt.putC (h : FlowAt w W gf gs gb gc n fl) (k : Nat) (x : Bool) : FlowAt w (W.setCell ⟨gc, k, none⟩ (.bool x)) gf gs gb gc n ⟨fl.S, fl.B, fl.C.set k x⟩ :=
 ⟨h.bel.setCell (by exact h.lo.2.2.2) _, (BH _ _ _ _ (by exact cells_ne h.f h.c (by decide))).trans h.f, (BH _ _ _ _ (by exact cells_ne h.s h.c (by decide))).trans h.s, (BH _ _ _ _ (by exact h.ne)).trans h.b, by rw [← arrV_set]; exact blk_set h.c k _, h.ls, h.lb, by simp [h.lc], h.ne, h.lo⟩
theorem FlowAt.fs (h : FlowAt w W gf gs gb gc n fl) : W.cell? ⟨gf, 0, none⟩ = some (.slice (some ⟨gs, 0, none⟩) n n) := (blk_cell h.f 0).trans rfl
theorem FlowAt.fb (h : FlowAt w W gf gs gb gc n fl) : W.cell? ⟨gf, 1, none⟩ = some (.slice (some ⟨gb, 0, none⟩) n n) := (blk_cell h.f 1).trans rfl
theorem FlowAt.fc (h : FlowAt w W gf gs gb gc n fl) : W.cell? ⟨gf, 2, none⟩ = some (.slice (some ⟨gc, 0, none⟩) n n) := (blk_cell h.f 2).trans rfl
theorem getD_some {α : Type} {L : List α} {k : Nat} (d : α) (h : k < L.length) : L[k]? = some (L.getD k d) := by rw [GD, GE h]; rfl
theorem FlowAt.cs (h : FlowAt w W gf gs gb gc n fl) (k : Nat) (hk : k < n) : W.cell? ⟨gs, k, none⟩ = some (.string (fl.S.getD k bN)) ∧ W.frozen? ⟨gs, k, none⟩ = false := ⟨(blk_cell h.s k).trans (arrV_get _ _ _ _ (getD_some _ (by rw [h.ls]; exact hk))), blk_frozen h.s k⟩
theorem FlowAt.cb (h : FlowAt w W gf gs gb gc n fl) (k : Nat) (hk : k < n) : W.cell? ⟨gb, k, none⟩ = some (.bool (fl.B.getD k false)) ∧ W.frozen? ⟨gb, k, none⟩ = false := ⟨(blk_cell h.b k).trans (arrV_get _ _ _ _ (getD_some _ (by rw [h.lb]; exact hk))), blk_frozen h.b k⟩
theorem FlowAt.cc (h : FlowAt w W gf gs gb gc n fl) (k : Nat) (hk : k < n) : W.cell? ⟨gc, k, none⟩ = some (.bool (fl.C.getD k false)) ∧ W.frozen? ⟨gc, k, none⟩ = false := ⟨(blk_cell h.c k).trans (arrV_get _ _ _ _ (getD_some _ (by rw [h.lc]; exact hk))), blk_frozen h.c k⟩
end
theorem hand_any (w W : World) (gf gs gb gc n k : Nat) (fl : FlS) (s : ByteArray) (h : FlowAt w W gf gs gb gc n fl) (hk : k < n) (hn : n ≤ 200) : Calls Tryz.prog 106 #[.pointer (some ⟨gf, 0, none⟩), O Y (k : Int), .string s] W fun e w' => e = .returned (.tuple #[]) ∧ FlowAt w w' gf gs gb gc n (handF fl k s) ∧ Keeps [gs, gb, gc] W w' := by
 have b1 : ((k : Nat) : Int) < (n : Int) := by omega
 have b2 : decide (n ≤ k) = false := decide_eq_false (by omega); have b3 : (k : Int) ≤ 200 := by omega
 have f0 := h.fs; have f1 := h.fb; have c0 := (h.cs k hk).1; have c1 := (h.cb k hk).1; have hP := ZZ (Keeps.of_below (BR W.heap.size W).drew [gs, gb, gc]); cases hB : fl.B.getD k false
 · have hh := ZZ (show handF fl k s = ⟨fl.S.set k s, fl.B.set k true, fl.C⟩ by unfold handF; rw [hB]; rfl); rw [hB] at c1; replace hk := ZZ hk; have hF := h.step (BR _ _).drew; clear h hB; go_enter Tryz.func106, Tryz.ntmps106; go_wp2_with fail; refine st 15 (S := fun w' => w'.cell? ⟨gf, 0, none⟩ = some (.slice (some ⟨gs, 0, none⟩) n n) ∧ w'.cell? ⟨gf, 1, none⟩ = some (.slice (some ⟨gb, 0, none⟩) n n)) (ds := [12, 14]) ⟨hF.fs, hF.fb⟩ (fun hHeld => ?_); generalize W.drew = u0 at *; replace hF := ZZ hF; refine pq 0 ?_; refine pq 1 ?_; refine pq 2 ?_; refine pq 4 ?_; refine pq 5 ?_; refine pq 6 ?_; refine pq 7 ?_; refine pq 9 ?_; refine pq 10 ?_; refine tk 3 hHeld ?_; refine tk 8 hHeld ?_; refine pq 11 ?_; refine rg2 12 (fun K hK => ?_); obtain ⟨b0, b1⟩ := hF.out.cb k hk.out; refine skip_ (w1 := ?_) (by rfl) rfl ?_ ?_; rotate_left
   · go_simp; rfl
   replace hF := ZZ (hF.out.putB k true); replace hP := ZZ (hP.out.setCell gb k (.bool true) (.inl (by simp))); refine hK.out _ _ ?_; clear hK K; refine pq 13 ?_; refine rg2 14 (fun K hK => ?_); obtain ⟨d0, d1⟩ := hF.out.cs k hk.out; refine skip_ (w1 := ?_) (by rfl) rfl ?_ ?_; rotate_left
   · go_simp; rfl
   replace hF := ZZ (hF.out.putS k s); replace hP := ZZ (hP.out.setCell gs k (.string s) (.inl (by simp))); refine hK.out _ _ ?_; clear hK K; refine dn ?_; clear b0 b1 d0 d1 hHeld; go_wp2_with fail; go_end0; exact ⟨rfl, by rw [hh.out]; exact hF.out, hP.out⟩
 · rw [hB] at c1; cases f2 : ((fl.S.getD k bN).toList == s.toList)
   rotate_left
   · have hh := ZZ (show handF fl k s = ⟨fl.S.set k s, fl.B.set k true, fl.C⟩ by unfold handF; rw [hB, f2]; rfl); have hF := h.step (BR _ _).drew; replace hk := ZZ hk; clear h hB; generalize fl.S.getD k bN = sk at *; go_enter Tryz.func106, Tryz.ntmps106; go_wp2_with fail; refine st 15 (S := fun w' => w'.cell? ⟨gf, 0, none⟩ = some (.slice (some ⟨gs, 0, none⟩) n n) ∧ w'.cell? ⟨gf, 1, none⟩ = some (.slice (some ⟨gb, 0, none⟩) n n)) (ds := [12, 14]) ⟨hF.fs, hF.fb⟩ (fun hHeld => ?_); generalize W.drew = u0 at *; replace hF := ZZ hF; refine pq 0 ?_; refine pq 1 ?_; refine pq 2 ?_; refine pq 4 ?_; refine pq 5 ?_; refine pq 6 ?_; refine pq 7 ?_; refine pq 9 ?_; refine pq 10 ?_; refine tk 3 hHeld ?_; refine tk 8 hHeld ?_; refine pq 11 ?_; refine rg2 12 (fun K hK => ?_); obtain ⟨b0, b1⟩ := hF.out.cb k hk.out; refine skip_ (w1 := ?_) (by rfl) rfl ?_ ?_; rotate_left
     · go_simp; rfl
     replace hF := ZZ (hF.out.putB k true); replace hP := ZZ (hP.out.setCell gb k (.bool true) (.inl (by simp))); refine hK.out _ _ ?_; clear hK K; refine pq 13 ?_; refine rg2 14 (fun K hK => ?_); obtain ⟨d0, d1⟩ := hF.out.cs k hk.out; refine skip_ (w1 := ?_) (by rfl) rfl ?_ ?_; rotate_left
     · go_simp; rfl
     replace hF := ZZ (hF.out.putS k s); replace hP := ZZ (hP.out.setCell gs k (.string s) (.inl (by simp))); refine hK.out _ _ ?_; clear hK K; refine dn ?_; clear b0 b1 d0 d1 hHeld; go_wp2_with fail; go_end0; exact ⟨rfl, by rw [hh.out]; exact hF.out, hP.out⟩
   · have hh := ZZ (show handF fl k s = ⟨fl.S.set k s, fl.B.set k true, fl.C.set k true⟩ by
      unfold handF; rw [hB, f2]; rfl)
     have f3 := h.fc; obtain ⟨c2, c3⟩ := h.cc k hk; have h' := h.putC k true; have g0 := h'.fs; have g1 := h'.fb; have hF := h'.step (BR _ _).drew; have hP := ZZ (((Keeps.refl [gs, gb, gc] W).setCell gc k (.bool true) (.inl (by simp))).trans (Keeps.of_below (BR _ _).drew _)); obtain ⟨W00, hW00⟩ : ∃ W00, W = W00 := ⟨_, rfl⟩
     replace hP : Hid (Keeps [gs, gb, gc] W00 (W.setCell ⟨gc, k, none⟩ (.bool true)).drew) := by rw [← hW00]; exact hP
     replace hk := ZZ hk; clear hB; replace h' := ZZ h'; replace hF := ZZ hF; generalize hsk : fl.S.getD k bN = sk at *; replace hsk := ZZ hsk; replace h := ZZ h; rw [show (Keeps [gs, gb, gc] W) = Keeps [gs, gb, gc] W00 by rw [hW00]]; replace hW00 := ZZ hW00; go_enter Tryz.func106, Tryz.ntmps106; go_wp2_with fail; generalize W.setCell ⟨gc, k, none⟩ (.bool true) = W at *; replace hF := hF.out; clear f0 f1 c0 c1 c2 c3 f2 f3; refine st 15 (S := fun w' => w'.cell? ⟨gf, 0, none⟩ = some (.slice (some ⟨gs, 0, none⟩) n n) ∧ w'.cell? ⟨gf, 1, none⟩ = some (.slice (some ⟨gb, 0, none⟩) n n)) (ds := [12, 14]) ⟨hF.fs, hF.fb⟩ (fun hHeld => ?_); generalize W.drew = u0 at *; replace hF := ZZ hF; refine pq 0 ?_; refine pq 1 ?_; refine pq 2 ?_; refine pq 4 ?_; refine pq 5 ?_; refine pq 6 ?_; refine pq 7 ?_; refine pq 9 ?_; refine pq 10 ?_; refine tk 3 hHeld ?_; refine tk 8 hHeld ?_; refine pq 11 ?_; refine rg2 12 (fun K hK => ?_); obtain ⟨b0, b1⟩ := hF.out.cb k hk.out; refine skip_ (w1 := ?_) (by rfl) rfl ?_ ?_; rotate_left
     · go_simp; rfl
     replace hF := ZZ (hF.out.putB k true); replace hP := ZZ (hP.out.setCell gb k (.bool true) (.inl (by simp))); refine hK.out _ _ ?_; clear hK K; refine pq 13 ?_; refine rg2 14 (fun K hK => ?_); obtain ⟨d0, d1⟩ := hF.out.cs k hk.out; refine skip_ (w1 := ?_) (by rfl) rfl ?_ ?_; rotate_left
     · go_simp; rfl
     replace hF := ZZ (hF.out.putS k s); replace hP := ZZ (hP.out.setCell gs k (.string s) (.inl (by simp))); refine hK.out _ _ ?_; clear hK K; refine dn ?_; clear b0 b1 d0 d1 hHeld; go_wp2_with fail; go_end0; exact ⟨rfl, by rw [hh.out]; exact hF.out, hP.out⟩
end
def nextF (fl : FlS) (k : Nat) (x : I3) (t : ByteArray) : FlS := if x.o = 19 ∨ x.o = 25 then fl else handF fl (k + 1) t
def jmpF (fl : FlS) (k : Nat) (x : I3) (t : ByteArray) : FlS := if x.o = 19 ∨ x.o = 20 then handF fl (k + 1 + x.a.toNat) t else fl
def oneP (fl : FlS) (k : Nat) (x : I3) (M : List Int) : Int × FlS :=
 if fl.B.getD k false = false then (8, fl) else
 if (fl.C.getD k false || (x.o == 22 && !((fl.S.getD (M.getD k 0).toNat bN).toList == (fl.S.getD k bN).toList))) = true then (10, fl) else
 if (afterP x.o x.a (fl.S.getD k bN)).2 = 0 then (0, jmpF (nextF fl k x (afterP x.o x.a (fl.S.getD k bN)).1) k x (afterP x.o x.a (fl.S.getD k bN)).1) else ((afterP x.o x.a (fl.S.getD k bN)).2, fl)
theorem oneP_8 {fl : FlS} {k : Nat} {x : I3} {M : List Int} (hB : fl.B.getD k false = false) : oneP fl k x M = (8, fl) := by unfold oneP; rw [if_pos hB]
theorem oneP_10 {fl : FlS} {k : Nat} {x : I3} {M : List Int} (hB : fl.B.getD k false = true) (hc : (fl.C.getD k false || (x.o == 22 && !((fl.S.getD (M.getD k 0).toNat bN).toList == (fl.S.getD k bN).toList))) = true) : oneP fl k x M = (10, fl) := by unfold oneP; rw [if_neg (by rw [hB]; decide), if_pos hc]
theorem oneP_e {fl : FlS} {k : Nat} {x : I3} {M : List Int} {t : ByteArray} {er : Int} (hB : fl.B.getD k false = true) (hc : (fl.C.getD k false || (x.o == 22 && !((fl.S.getD (M.getD k 0).toNat bN).toList == (fl.S.getD k bN).toList))) = false) (ha : afterP x.o x.a (fl.S.getD k bN) = (t, er)) : oneP fl k x M = if er = 0 then (0, jmpF (nextF fl k x t) k x t) else (er, fl) := by
 unfold oneP; rw [if_neg (by rw [hB]; decide), if_neg (by rw [hc]; decide), ha]
theorem ok_o {x : I3} (h : okI x = true) : 1 ≤ x.o ∧ x.o ≤ 25 := by
 by_cases hr : 1 ≤ x.o ∧ x.o ≤ 25
 · exact hr
 · unfold okI rightI at h; rw [show kindOf x.o = ⟨⟨#[]⟩, -1, 0, 0⟩ by unfold kindOf; rw [if_pos (by omega)]] at h; simp at h
theorem ok_64 {x : I3} (h : okI x = true) : In64 x.o := by have := ok_o h; unfold In64; omega
structure OneOk (n k : Nat) (x : I3) (M : List Int) : Prop where
 lt : k < n
 le : n ≤ 200
 ok : okI x = true
 sm : SmI x
 m : x.o = 22 → ∃ j : Nat, M.getD k 0 = (j : Int) ∧ j < n
 nx : x.o ≠ 19 → x.o ≠ 25 → k + 1 < n
 jm : x.o = 19 ∨ x.o = 20 → k + 1 + x.a.toNat < n
structure XAt (u : World) (g : Nat) (x : I3) : Prop where
 blk : u.heap[g]? = some (.cells #[O Y x.o, O Y x.a, O Y x.b] 127 (0, 0))
theorem XAt.step {u u' : World} {g : Nat} {x : I3} (h : XAt u g x) (hb : Below u.heap.size u u') : XAt u' g x := ⟨(hb.block _ (ltA h.blk)).trans h.blk⟩
theorem XAt.keep {u u' : World} {g a b c : Nat} {x : I3} (h : XAt u g x) (hk : Keeps [a, b, c] u u') (h1 : g ≠ a) (h2 : g ≠ b) (h3 : g ≠ c) : XAt u' g x := ⟨(hk.block _ (ltA h.blk) (by simp [h1, h2, h3])).trans h.blk⟩
theorem one_any (w W : World) (gf gs gb gc n k : Nat) (fl : FlS) (x : I3) (vm : Value) (M : List Int) (h : FlowAt w W gf gs gb gc n fl) (hm : ArrAt w vm M n) (hok : OneOk n k x M) (hs : (fl.S.getD k bN).size ≤ 16) : Calls Tryz.prog 107 #[.pointer (some ⟨gf, 0, none⟩), O Y (k : Int), .agg #[O Y x.o, O Y x.a, O Y x.b], vm] W fun e w' => e = .returned (O Y (oneP fl k x M).1) ∧ FlowAt w w' gf gs gb gc n (oneP fl k x M).2 := by
 obtain ⟨gm, rfl, hml, hmb⟩ := id hm; have hk := hok.lt; have hle := hok.le; have b1 : ((k : Nat) : Int) < (n : Int) := by omega
 have b2 : decide (n ≤ k) = false := decide_eq_false (by omega); have b3 : (k : Int) ≤ 200 := by omega
 have al := (BR W.heap.size W).alloc (NR _) (.cells #[O Y x.o, O Y x.a, O Y x.b] 127); have hF := h.step al; have hX : XAt (W.alloc (.cells #[O Y x.o, O Y x.a, O Y x.b] 127)) W.heap.size x := ⟨heap_alloc_last W _⟩
 have y0 := bk hX.blk 0 (O Y x.o); obtain ⟨W1, hW1⟩ : ∃ W1, W.alloc (.cells #[O Y x.o, O Y x.a, O Y x.b] 127) = W1 := ⟨_, rfl⟩
 rw [hW1] at hF hX y0; clear h al hmb; replace hm := ZZ hm; replace hml := ZZ hml; replace hle := ZZ hle; have f0 := hF.fs; have f1 := hF.fb; have f2 := hF.fc; have c0 := (hF.cs k hk).1; have c1 := (hF.cb k hk).1; have c2 := (hF.cc k hk).1; have hAf := after_any x.o x.a x.b (fl.S.getD k bN) W1.drew hok.ok (ok_64 hok.ok) hs; obtain ⟨sk, hsk⟩ : ∃ sk, fl.S.getD k bN = sk := ⟨_, rfl⟩
 rw [hsk] at hAf c0; obtain ⟨t, er, hte⟩ : ∃ t er, afterP x.o x.a sk = (t, er) := ⟨_, _, rfl⟩
 rw [hte] at hAf; replace hok := ZZ hok; replace hk := ZZ hk; clear hs; cases hB : fl.B.getD k false
 · rw [hB] at c1; have hP := ZZ (oneP_8 (x := x) (M := M) hB); replace hF := ZZ hF; clear hAf hX hsk hte; go_enter Tryz.func107, Tryz.ntmps107; go_wp2_with fail; go_ret; exact ⟨by rw [hP.out]; rfl, by rw [hP.out]; exact hF.out⟩
 · rw [hB] at c1; cases hC : fl.C.getD k false
   · rw [hC] at c2; have hX1 := hX.step (BR _ _).drew; have hF1 := hF.step (BR _ _).drew; by_cases h22 : x.o = 22
     · obtain ⟨j, hMj, hjn⟩ := hok.out.m h22; have d1 : ((j : Nat) : Int) < (n : Int) := by omega
       have d2 : decide (n ≤ j) = false := decide_eq_false (by omega); have cm := ((hm.out.step hF.bel)).at k hk.out; rw [hMj] at cm; have cj := (hF.cs j hjn).1; obtain ⟨sj, hsj⟩ : ∃ sj, fl.S.getD j bN = sj := ⟨_, rfl⟩
       rw [hsj] at cj; have g1 : (x.o == 22) = true := beq_iff_eq.mpr h22; cases hq : (sj.toList == sk.toList)
       · have hP := ZZ (oneP_10 (fl := fl) (k := k) (x := x) (M := M) hB (by rw [hC, g1, hMj, Int.toNat_natCast, hsj, hsk, hq]; rfl)); replace h22 := ZZ h22; replace hF1 := ZZ hF1; clear hAf hX1 hX hMj; replace hF := ZZ hF; go_enter Tryz.func107, Tryz.ntmps107; go_wp2_with fail; refine st 18 (S := fun w' => w'.cell? ⟨W.heap.size, 0, none⟩ = some (O Y x.o) ∧ w'.cell? ⟨gf, 0, none⟩ = some (.slice (some ⟨gs, 0, none⟩) n n) ∧ w'.cell? ⟨gm, k, none⟩ = some (O Y (j : Int)) ∧ w'.cell? ⟨gs, j, none⟩ = some (.string sj)) (ds := []) ⟨y0, f0, cm, cj⟩ (fun hHeld => ?_); generalize W1.drew = u1 at *; refine pq 0 ?_; refine tk 1 hHeld ?_; refine pq 2 ?_; refine pq 3 ?_; refine pq 4 ?_; refine pq 5 ?_; refine pq 6 ?_; refine pq 8 ?_; refine pq 9 ?_; refine pq 10 ?_; refine pq 14 ?_; refine tk 7 hHeld ?_; refine tk 11 hHeld ?_; refine pq 12 ?_; refine tk 13 hHeld ?_; refine pq 15 ?_; refine pq 16 ?_; refine pq 17 ?_; refine dn ?_; go_wp2_with fail; go_ret; exact ⟨by rw [hP.out]; rfl, by rw [hP.out]; exact hF1.out⟩
       · have hP := ZZ (oneP_e (fl := fl) (k := k) (x := x) (M := M) (t := t) (er := er) hB (by rw [hC, g1, hMj, Int.toNat_natCast, hsj, hsk, hq]; rfl) (by rw [hsk]; exact hte)); replace h22 := ZZ h22; replace hF1 := ZZ hF1; replace hX1 := ZZ hX1; replace hAf := ZZ hAf; clear hMj hX; replace hF := ZZ hF; go_enter Tryz.func107, Tryz.ntmps107; go_wp2_with fail; refine st 18 (S := fun w' => w'.cell? ⟨W.heap.size, 0, none⟩ = some (O Y x.o) ∧ w'.cell? ⟨gf, 0, none⟩ = some (.slice (some ⟨gs, 0, none⟩) n n) ∧ w'.cell? ⟨gm, k, none⟩ = some (O Y (j : Int)) ∧ w'.cell? ⟨gs, j, none⟩ = some (.string sj)) (ds := []) ⟨y0, f0, cm, cj⟩ (fun hHeld => ?_); generalize W1.drew = u1 at *; refine pq 0 ?_; refine tk 1 hHeld ?_; refine pq 2 ?_; refine pq 3 ?_; refine pq 4 ?_; refine pq 5 ?_; refine pq 6 ?_; refine pq 8 ?_; refine pq 9 ?_; refine pq 10 ?_; refine pq 14 ?_; refine tk 7 hHeld ?_; refine tk 11 hHeld ?_; refine pq 12 ?_; refine tk 13 hHeld ?_; refine pq 15 ?_; refine pq 16 ?_; refine pq 17 ?_; refine dn ?_; replace hX1 := hX1.out; replace hF1 := hF1.out; clear cm cj hq d1 d2 g1; clear f0 f1 f2 c0 c1 c2 hHeld; have y0 := bk hX1.blk 0 (O Y x.o); have y1 := bk hX1.blk 1 (O Y x.a); have y2 := bk hX1.blk 2 (O Y x.b); go_wp2_with fail; refine hAf.out.mono ?_; rintro e w2 ⟨rfl, hb2⟩; clear y0 y1 y2; have hX2 := hX1.step hb2; have hF2 := hF1.step hb2; clear hb2 hX1 hF1 hAf hsk hte; by_cases he : er = 0
         · subst he; replace hP := ZZ (hP.out.trans (if_pos rfl)); have y0 := bk hX2.blk 0 (O Y x.o); have y1 := bk hX2.blk 1 (O Y x.a); have ns := cells_ne hX2.blk hF2.s (by decide); have nb := cells_ne hX2.blk hF2.b (by decide); have nc := cells_ne hX2.blk hF2.c (by decide); by_cases h19 : x.o = 19
           · have e1 : (x.o == 19) = true := beq_iff_eq.mpr h19; have e2 : (x.o != 19) = false := by rw [h19]; rfl
             have hj := hok.out.jm (.inl h19); have hab := jump_bd hok.out.ok (.inl h19); obtain ⟨q, hq⟩ : ∃ q : Nat, x.a = (q : Int) := ⟨x.a.toNat, by omega⟩
             have hR := ZZ (show jmpF (nextF fl k x t) k x t = handF fl (k + 1 + q) t by unfold jmpF nextF; rw [if_pos (.inl h19), if_pos (.inl h19), hq]; rfl); rw [hq] at hj y1 hab; rw [Int.toNat_natCast] at hj; replace hq := ZZ hq; replace h19 := ZZ h19; have hHd := hand_any w w2 gf gs gb gc n (k + 1 + q) fl t hF2 hj hle.out; rw [show (((k + 1 + q : Nat)) : Int) = (k : Int) + 1 + (q : Int) by omega] at hHd; replace hHd := ZZ hHd; replace hF2 := ZZ hF2; replace hX2 := ZZ hX2; replace hj := ZZ hj; have hq2 : (q : Int) ≤ 199 := hab.2; replace hab := ZZ hab; go_wp2_with fail; refine hHd.out.mono ?_; rintro e w3 ⟨rfl, hF3, -⟩; replace hF3 := ZZ hF3; go_wp2_with fail; go_ret; exact ⟨by rw [hP.out]; rfl, by rw [hP.out]; show FlowAt w _ gf gs gb gc n (jmpF (nextF fl k x t) k x t); rw [hR.out]; exact hF3.out⟩
           · have e1 : (x.o == 19) = false := beq_eq_false_iff_ne.mpr h19; have e2 : (x.o != 19) = true := bne_iff_ne.mpr h19; by_cases h20 : x.o = 20
             · have e3 : (x.o == 20) = true := beq_iff_eq.mpr h20; have e4 : (x.o != 25) = true := by rw [h20]; rfl
               have hj := hok.out.jm (.inr h20); have hnx := hok.out.nx h19 (by omega); have hab := jump_bd hok.out.ok (.inr h20); obtain ⟨q, hq⟩ : ∃ q : Nat, x.a = (q : Int) := ⟨x.a.toNat, by omega⟩
               have hR := ZZ (show jmpF (nextF fl k x t) k x t = handF (handF fl (k + 1) t) (k + 1 + q) t by unfold jmpF nextF; rw [if_pos (.inr h20), if_neg (by omega), hq]; rfl); rw [hq] at hj hab; rw [Int.toNat_natCast] at hj; replace hq := ZZ hq; replace h19 := ZZ h19; replace h20 := ZZ h20; have hHd := hand_any w w2 gf gs gb gc n (k + 1) fl t hF2 hnx hle.out; rw [show (((k + 1 : Nat)) : Int) = (k : Int) + 1 by omega] at hHd; replace hHd := ZZ hHd; replace hF2 := ZZ hF2; replace hX2 := ZZ hX2; replace hj := ZZ hj; replace hnx := ZZ hnx; have hq2 : (q : Int) ≤ 199 := hab.2; replace hab := ZZ hab; go_wp2_with fail; refine hHd.out.mono ?_; rintro e w3 ⟨rfl, hF3, hK3⟩; have hX3 := hX2.out.keep hK3 ns nb nc; have y0 := bk hX3.blk 0 (O Y x.o); have y1 := (blk_cell hX3.blk 1).trans (show _ = some (O Y (q : Int)) by rw [← hq.out]; rfl); clear hHd hK3; have hHd := hand_any w w3 gf gs gb gc n (k + 1 + q) (handF fl (k + 1) t) t hF3 hj.out hle.out; rw [show (((k + 1 + q : Nat)) : Int) = (k : Int) + 1 + (q : Int) by omega] at hHd; replace hHd := ZZ hHd; replace hX3 := ZZ hX3; replace hF3 := ZZ hF3; go_wp2_with fail; refine hHd.out.mono ?_; rintro e w4 ⟨rfl, hF4, -⟩; replace hF4 := ZZ hF4; go_wp2_with fail; go_ret; exact ⟨by rw [hP.out]; rfl, by rw [hP.out]; show FlowAt w _ gf gs gb gc n (jmpF (nextF fl k x t) k x t); rw [hR.out]; exact hF4.out⟩
             · have e3 : (x.o == 20) = false := beq_eq_false_iff_ne.mpr h20; by_cases h25 : x.o = 25
               · have e4 : (x.o != 25) = false := by rw [h25]; rfl
                 have hR := ZZ (show jmpF (nextF fl k x t) k x t = fl by unfold jmpF nextF; rw [if_neg (by omega), if_pos (.inr h25)]); replace h19 := ZZ h19; replace h20 := ZZ h20; replace h25 := ZZ h25; replace hF2 := ZZ hF2; replace hX2 := ZZ hX2; go_wp2_with fail; go_ret; exact ⟨by rw [hP.out]; rfl, by rw [hP.out]; show FlowAt w _ gf gs gb gc n (jmpF (nextF fl k x t) k x t); rw [hR.out]; exact hF2.out⟩
               · have e4 : (x.o != 25) = true := bne_iff_ne.mpr h25; have hnx := hok.out.nx h19 h25; have hR := ZZ (show jmpF (nextF fl k x t) k x t = handF fl (k + 1) t by unfold jmpF nextF; rw [if_neg (by omega), if_neg (by omega)]); replace h19 := ZZ h19; replace h20 := ZZ h20; replace h25 := ZZ h25; have hHd := hand_any w w2 gf gs gb gc n (k + 1) fl t hF2 hnx hle.out; rw [show (((k + 1 : Nat)) : Int) = (k : Int) + 1 by omega] at hHd; replace hHd := ZZ hHd; replace hF2 := ZZ hF2; replace hX2 := ZZ hX2; replace hnx := ZZ hnx; go_wp2_with fail; refine hHd.out.mono ?_; rintro e w3 ⟨rfl, hF3, hK3⟩; have hX3 := hX2.out.keep hK3 ns nb nc; have y0 := bk hX3.blk 0 (O Y x.o); clear hHd hK3; replace hX3 := ZZ hX3; replace hF3 := ZZ hF3; go_wp2_with fail; go_ret; exact ⟨by rw [hP.out]; rfl, by rw [hP.out]; show FlowAt w _ gf gs gb gc n (jmpF (nextF fl k x t) k x t); rw [hR.out]; exact hF3.out⟩
         · replace hP := ZZ (hP.out.trans (if_neg he)); have e1 : (er != 0) = true := bne_iff_ne.mpr he; replace he := ZZ he; replace hF2 := ZZ hF2; clear hX2; go_wp2_with fail; go_ret; exact ⟨by rw [hP.out]; rfl, by rw [hP.out]; exact hF2.out⟩
     · have g1 : (x.o == 22) = false := beq_eq_false_iff_ne.mpr h22; have hP := ZZ (oneP_e (fl := fl) (k := k) (x := x) (M := M) (t := t) (er := er) hB (by rw [hC, g1]; rfl) (by rw [hsk]; exact hte)); replace h22 := ZZ h22; replace hF1 := ZZ hF1; replace hX1 := ZZ hX1; replace hAf := ZZ hAf; clear hX; replace hF := ZZ hF; go_enter Tryz.func107, Tryz.ntmps107; go_wp2_with fail; refine st 18 (S := fun w' => w'.cell? ⟨W.heap.size, 0, none⟩ = some (O Y x.o)) (ds := []) y0 (fun hHeld => ?_); generalize W1.drew = u1 at *; refine pq 0 ?_; refine tk 1 hHeld ?_; refine pq 2 ?_; refine pq 3 ?_; refine po 4 ?_; refine po 5 ?_; refine po 6 ?_; refine po 8 ?_; refine po 9 ?_; refine po 10 ?_; refine po 14 ?_; refine po 7 ?_; refine po 11 ?_; refine po 12 ?_; refine po 13 ?_; refine po 15 ?_; refine pq 16 ?_; refine pq 17 ?_; refine dn ?_; replace hX1 := hX1.out; replace hF1 := hF1.out; clear g1; clear f0 f1 f2 c0 c1 c2 hHeld; have y0 := bk hX1.blk 0 (O Y x.o); have y1 := bk hX1.blk 1 (O Y x.a); have y2 := bk hX1.blk 2 (O Y x.b); go_wp2_with fail; refine hAf.out.mono ?_; rintro e w2 ⟨rfl, hb2⟩; clear y0 y1 y2; have hX2 := hX1.step hb2; have hF2 := hF1.step hb2; clear hb2 hX1 hF1 hAf hsk hte; by_cases he : er = 0
       · subst he; replace hP := ZZ (hP.out.trans (if_pos rfl)); have y0 := bk hX2.blk 0 (O Y x.o); have y1 := bk hX2.blk 1 (O Y x.a); have ns := cells_ne hX2.blk hF2.s (by decide); have nb := cells_ne hX2.blk hF2.b (by decide); have nc := cells_ne hX2.blk hF2.c (by decide); by_cases h19 : x.o = 19
         · have e1 : (x.o == 19) = true := beq_iff_eq.mpr h19; have e2 : (x.o != 19) = false := by rw [h19]; rfl
           have hj := hok.out.jm (.inl h19); have hab := jump_bd hok.out.ok (.inl h19); obtain ⟨q, hq⟩ : ∃ q : Nat, x.a = (q : Int) := ⟨x.a.toNat, by omega⟩
           have hR := ZZ (show jmpF (nextF fl k x t) k x t = handF fl (k + 1 + q) t by unfold jmpF nextF; rw [if_pos (.inl h19), if_pos (.inl h19), hq]; rfl); rw [hq] at hj y1 hab; rw [Int.toNat_natCast] at hj; replace hq := ZZ hq; replace h19 := ZZ h19; have hHd := hand_any w w2 gf gs gb gc n (k + 1 + q) fl t hF2 hj hle.out; rw [show (((k + 1 + q : Nat)) : Int) = (k : Int) + 1 + (q : Int) by omega] at hHd; replace hHd := ZZ hHd; replace hF2 := ZZ hF2; replace hX2 := ZZ hX2; replace hj := ZZ hj; have hq2 : (q : Int) ≤ 199 := hab.2; replace hab := ZZ hab; go_wp2_with fail; refine hHd.out.mono ?_; rintro e w3 ⟨rfl, hF3, -⟩; replace hF3 := ZZ hF3; go_wp2_with fail; go_ret; exact ⟨by rw [hP.out]; rfl, by rw [hP.out]; show FlowAt w _ gf gs gb gc n (jmpF (nextF fl k x t) k x t); rw [hR.out]; exact hF3.out⟩
         · have e1 : (x.o == 19) = false := beq_eq_false_iff_ne.mpr h19; have e2 : (x.o != 19) = true := bne_iff_ne.mpr h19; by_cases h20 : x.o = 20
           · have e3 : (x.o == 20) = true := beq_iff_eq.mpr h20; have e4 : (x.o != 25) = true := by rw [h20]; rfl
             have hj := hok.out.jm (.inr h20); have hnx := hok.out.nx h19 (by omega); have hab := jump_bd hok.out.ok (.inr h20); obtain ⟨q, hq⟩ : ∃ q : Nat, x.a = (q : Int) := ⟨x.a.toNat, by omega⟩
             have hR := ZZ (show jmpF (nextF fl k x t) k x t = handF (handF fl (k + 1) t) (k + 1 + q) t by unfold jmpF nextF; rw [if_pos (.inr h20), if_neg (by omega), hq]; rfl); rw [hq] at hj hab; rw [Int.toNat_natCast] at hj; replace hq := ZZ hq; replace h19 := ZZ h19; replace h20 := ZZ h20; have hHd := hand_any w w2 gf gs gb gc n (k + 1) fl t hF2 hnx hle.out; rw [show (((k + 1 : Nat)) : Int) = (k : Int) + 1 by omega] at hHd; replace hHd := ZZ hHd; replace hF2 := ZZ hF2; replace hX2 := ZZ hX2; replace hj := ZZ hj; replace hnx := ZZ hnx; have hq2 : (q : Int) ≤ 199 := hab.2; replace hab := ZZ hab; go_wp2_with fail; refine hHd.out.mono ?_; rintro e w3 ⟨rfl, hF3, hK3⟩; have hX3 := hX2.out.keep hK3 ns nb nc; have y0 := bk hX3.blk 0 (O Y x.o); have y1 := (blk_cell hX3.blk 1).trans (show _ = some (O Y (q : Int)) by rw [← hq.out]; rfl); clear hHd hK3; have hHd := hand_any w w3 gf gs gb gc n (k + 1 + q) (handF fl (k + 1) t) t hF3 hj.out hle.out; rw [show (((k + 1 + q : Nat)) : Int) = (k : Int) + 1 + (q : Int) by omega] at hHd; replace hHd := ZZ hHd; replace hX3 := ZZ hX3; replace hF3 := ZZ hF3; go_wp2_with fail; refine hHd.out.mono ?_; rintro e w4 ⟨rfl, hF4, -⟩; replace hF4 := ZZ hF4; go_wp2_with fail; go_ret; exact ⟨by rw [hP.out]; rfl, by rw [hP.out]; show FlowAt w _ gf gs gb gc n (jmpF (nextF fl k x t) k x t); rw [hR.out]; exact hF4.out⟩
           · have e3 : (x.o == 20) = false := beq_eq_false_iff_ne.mpr h20; by_cases h25 : x.o = 25
             · have e4 : (x.o != 25) = false := by rw [h25]; rfl
               have hR := ZZ (show jmpF (nextF fl k x t) k x t = fl by unfold jmpF nextF; rw [if_neg (by omega), if_pos (.inr h25)]); replace h19 := ZZ h19; replace h20 := ZZ h20; replace h25 := ZZ h25; replace hF2 := ZZ hF2; replace hX2 := ZZ hX2; go_wp2_with fail; go_ret; exact ⟨by rw [hP.out]; rfl, by rw [hP.out]; show FlowAt w _ gf gs gb gc n (jmpF (nextF fl k x t) k x t); rw [hR.out]; exact hF2.out⟩
             · have e4 : (x.o != 25) = true := bne_iff_ne.mpr h25; have hnx := hok.out.nx h19 h25; have hR := ZZ (show jmpF (nextF fl k x t) k x t = handF fl (k + 1) t by unfold jmpF nextF; rw [if_neg (by omega), if_neg (by omega)]); replace h19 := ZZ h19; replace h20 := ZZ h20; replace h25 := ZZ h25; have hHd := hand_any w w2 gf gs gb gc n (k + 1) fl t hF2 hnx hle.out; rw [show (((k + 1 : Nat)) : Int) = (k : Int) + 1 by omega] at hHd; replace hHd := ZZ hHd; replace hF2 := ZZ hF2; replace hX2 := ZZ hX2; replace hnx := ZZ hnx; go_wp2_with fail; refine hHd.out.mono ?_; rintro e w3 ⟨rfl, hF3, hK3⟩; have hX3 := hX2.out.keep hK3 ns nb nc; have y0 := bk hX3.blk 0 (O Y x.o); clear hHd hK3; replace hX3 := ZZ hX3; replace hF3 := ZZ hF3; go_wp2_with fail; go_ret; exact ⟨by rw [hP.out]; rfl, by rw [hP.out]; show FlowAt w _ gf gs gb gc n (jmpF (nextF fl k x t) k x t); rw [hR.out]; exact hF3.out⟩
       · replace hP := ZZ (hP.out.trans (if_neg he)); have e1 : (er != 0) = true := bne_iff_ne.mpr he; replace he := ZZ he; replace hF2 := ZZ hF2; clear hX2; go_wp2_with fail; go_ret; exact ⟨by rw [hP.out]; rfl, by rw [hP.out]; exact hF2.out⟩
   · rw [hC] at c2; have hP := ZZ (oneP_10 (fl := fl) (k := k) (x := x) (M := M) hB (by rw [hC]; rfl)); replace hF := ZZ hF; clear hAf hX hsk hte; go_enter Tryz.func107, Tryz.ntmps107; go_wp2_with fail; go_ret; exact ⟨by rw [hP.out]; rfl, by rw [hP.out]; exact hF.out⟩
end Go.Proofs.YtoopeamoejmjeaaGreat.Tp
