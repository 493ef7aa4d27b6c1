/- Steps of the walk, merged and shortened by a program (fit.py). -/
import Derived.Below
import Derived.Carry
import Derived.Deep.AppendLies
import Derived.Deep.Slices
import Derived.Deep.WholeRow
import Derived.KernelRfl
import Derived.Laws.Bits64
import Derived.Laws.BitsAllLaws
import Derived.Laws.BitsLemmas
import Derived.Laws.Closers25
import Derived.Laws.Rows
import Derived.Laws.Tables
import Derived.Lib.AppendStr
import Derived.Lib.ConvBytes
import Derived.Lib.Hide
import Derived.LoopTactic
import Derived.Maps.AppendAt
import Derived.RowKit
import Derived.RowKit3
import Derived.Test.YtoopeamoejmjeaaGreatProg
import Derived.WalkKit
import Derived.Test.YtoopeamoejmjeaaGreatWCut
set_option linter.unusedVariables false
set_option linter.unusedSimpArgs false
set_option maxRecDepth 100000
set_option maxHeartbeats 4000000
open Nat renaming le_refl → NR
open List renaming getElem?_eq_getElem → GE
open Go.RowKit.Below renaming refl → BR
open ByteArray renaming empty → BE
open List renaming getD_eq_getElem?_getD → GD
open Array renaming mem_of_getElem? → AM
open List renaming mem_of_getElem? → LM
open List renaming getElem?_eq_some_iff → GI
open List renaming map_toArray → MA
open Go.RowKit.Below renaming heap_setCell → BH
open Go.Lib renaming hid → ZZ
open Go.Value renaming int → O
open Go.IntKind renaming i64 → Y
namespace Go.Proofs.YtoopeamoejmjeaaGreat
theorem bk {w : Go.World} {g : Nat} {t : Go.TypeId} {cs : Array Go.Value} (h : w.heap[g]? = some (.cells cs t (0, 0))) (i : Nat) (v : Go.Value) (e : cs[i]? = some v := by rfl) : w.cell? ⟨g, i, none⟩ = some v := (Go.Proofs.YtoopeamoejmjeaaGreatW.PrintWords.blk_cell h i).trans e
theorem ltA {α : Type} {xs : Array α} {i : Nat} {a : α} (h : xs[i]? = some a) : i < xs.size := (Array.getElem?_eq_some_iff.1 h).1
end Go.Proofs.YtoopeamoejmjeaaGreat
namespace Go.Proofs.YtoopeamoejmjeaaGreat
open RowKit
section
def LRow (w : World) (base : Nat) (e : TypeId) (size : Nat) (v : Value) (n : Nat) (xs : List Value) : Prop :=
 xs.length = n * size ∧ ((v = .slice none 0 0 ∧ n = 0) ∨
  ∃ g cap cur, v = .slice (some ⟨g, 0, none⟩) n cap ∧ base ≤ g ∧ w.heap[g]? = some (.cells cur e (0, 0)) ∧ n ≤ cap ∧ cap ≤ maxLen ∧ cap * size ≤ cur.size ∧ cur.toList.take (n * size) = xs)
section
variable {P : Program} (w : World)
theorem LRow.move {w w1 : World} {base : Nat} {e : TypeId} {size n : Nat} {v : Value} {xs : List Value} (h : LRow w base e size v n xs) (hm : ∀ k, v.ownBlock = some k → w1.heap[k]? = w.heap[k]?) : LRow w1 base e size v n xs := by
 obtain ⟨h1, h2⟩ := h; refine ⟨h1, ?_⟩; rcases h2 with h2 | ⟨g, cap, cur, rfl, hg, hh, r⟩
 · exact .inl h2
 · exact .inr ⟨g, cap, cur, rfl, hg, (hm g (by simp [Value.ownBlock])).trans hh, r⟩
theorem LRow.lt {w : World} {base : Nat} {e : TypeId} {size n : Nat} {v : Value} {xs : List Value} (h : LRow w base e size v n xs) (k : Nat) (hk : v.ownBlock = some k) : k < w.heap.size ∧ base ≤ k ∧ ∃ cur, w.heap[k]? = some (.cells cur e (0, 0)) := by
 obtain ⟨h1, h2⟩ := h; rcases h2 with ⟨rfl, _⟩ | ⟨g, cap, cur, rfl, hg, hh, r⟩
 · simp [Value.ownBlock] at hk
 · have : g = k := by simpa [Value.ownBlock] using hk
   subst this; exact ⟨(ltA hh), hg, cur, hh⟩
theorem LRow.slice {w : World} {base : Nat} {e : TypeId} {size n : Nat} {v : Value} {xs : List Value} (h : LRow w base e size v n xs) : ∃ A c, v = .slice A n c ∧ n ≤ c := by
 obtain ⟨h1, h2⟩ := h; rcases h2 with ⟨rfl, rfl⟩ | ⟨g, cap, cur, rfl, hg, hh, hn, r⟩
 · exact ⟨none, 0, rfl, NR _⟩
 · exact ⟨_, _, rfl, hn⟩
theorem LRow.cell {w : World} {base : Nat} {e : TypeId} {size n cap : Nat} {a : Addr} {xs : List Value} (h : LRow w base e size (.slice (some a) n cap) n xs) (j : Nat) (u : Value) (hj : xs[j]? = some u) : w.cell? (a.add j) = some u := by
 obtain ⟨h1, h2⟩ := h; rcases h2 with ⟨h3, _⟩ | ⟨g, cap', cur, h3, hg, hh, hn, hm, hs, ht⟩
 · cases h3
 · injection h3 with h3
   injection h3 with h3
   subst h3; have hjl := (GI.1 hj).1; have e1 : (⟨g, 0, none⟩ : Addr).add j = ⟨g, j, none⟩ := by unfold Addr.add; split <;> simp_all
   rw [e1, cell_of_row w g j cur e (0, 0) hh, ← Array.getElem?_toList, ← hj, ← ht, List.getElem?_take, if_pos (by omega)]
theorem run_append_loose (base : Nat) (t ty e : TypeId) (i : TypeInfo) (z : Value) (size bytes : Nat) (ht : P.underlying t = some (.slice e)) (hi : P.info? e = some i) (hz : i.zero = some z)
 (hsize : i.size = size) (hby : i.bytes = bytes) (hzs : z.cells.size = size) (hsz : 0 < size)
 (v : Value) (n : Nat) (xs : List Value) (hown : LRow w base e size v n xs)
 (A : Option Addr) (m c : Nat) (news : List Value) (hl : news.length = m * size) (hsrc : (v = .slice none 0 0 ∧ A = none ∧ m = 0 ∧ c = 0) ∨ ∃ a, A = some a ∧ ∀ j u, news[j]? = some u → w.cell? (a.add j) = some u) (h1 : ∀ u ∈ news, u.oneCell' = true)
 (h63 : n + m ≤ maxLen) (hbytes : (n + m) * bytes ≤ 140737488355328) (hbase : base ≤ w.heap.size) :
 ∃ v' w', (Builtin.append_ #[t, t] ty #[v, .slice A m c]).run P w = .ok v' w' ∧ LRow w' base e size v' (n + m) (xs ++ news) ∧ w.grownBy w' v.ownBlock ∧ (v'.ownBlock = v.ownBlock ∨ v'.ownBlock = some w.heap.size) := by
 subst hsize; subst hby; have hsmall : n + m ≤ 9223372036854775807 := by simp only [maxLen] at h63; omega
 have hlen : (xs ++ news).length = (n + m) * i.size := by rw [List.length_append, hown.1, hl, Nat.add_mul]
 have grown : ∀ (old : Nat), old < n + m → ∀ (row : Option Nat),
  LRow (w.drew.alloc (.cells (xs.toArray ++ news.toArray ++ Builtin.zeroCells z.cells (grownCap w (n + m) old e - (n + m))) e)) base e i.size
   (.slice (some ⟨w.heap.size, 0, none⟩) (n + m) (grownCap w (n + m) old e)) (n + m) (xs ++ news) ∧
  w.grownBy (w.drew.alloc (.cells (xs.toArray ++ news.toArray ++ Builtin.zeroCells z.cells (grownCap w (n + m) old e - (n + m))) e)) row := by
  intro old ho row; have hge := grownCap_ge w (n + m) old e; have hcm : grownCap w (n + m) old e ≤ maxLen := grownCap_le_maxLen w (n + m) old e h63; refine ⟨⟨hlen, .inr ⟨w.heap.size, _, _, rfl, hbase, heap_alloc_new w.drew _, hge, hcm, ?_, ?_⟩⟩, ⟨rfl, rfl, rfl, by simp, fun k hk _ => Below.heap_alloc w.drew _ k hk⟩⟩
  · apply Nat.le_of_eq; simp only [Array.size_append, List.size_toArray, size_zeroCells, hzs, hown.1, hl, ← Nat.add_mul]; congr 1; omega
  · simp only [Array.toList_append, List.append_assoc]; rw [← List.append_assoc, ← hlen]; exact List.take_left
 rcases hsrc with ⟨rfl, rfl, rfl, rfl⟩ | ⟨a, rfl, hnews⟩
 · have hn : n = 0 := by
    rcases hown.2 with ⟨_, h⟩ | ⟨g, cap, cur, h, _⟩
    · exact h
    · cases h
   have hx : xs = [] := List.eq_nil_of_length_eq_zero (by rw [hown.1, hn, Nat.zero_mul]); have hw : news = [] := List.eq_nil_of_length_eq_zero (by simpa using hl); subst hn hx hw; refine ⟨.slice none 0 0, w, ?_, ⟨by simp, .inl ⟨rfl, rfl⟩⟩, ⟨rfl, rfl, rfl, NR _, fun _ _ _ => rfl⟩, .inl rfl⟩; simp [Builtin.append_, run_underlying ht, sizeOf, typeInfo, hi, Builtin.lenOf, Builtin.firstCells]
 rcases hown.2 with ⟨rfl, rfl⟩ | ⟨g, cap, cur, rfl, hbg, hg, hnc, hcm, hcs, htake⟩
 · have hx : xs = [] := List.eq_nil_of_length_eq_zero (by simpa using hown.1); subst hx; by_cases hm : m = 0
   · subst hm; have hn : news = [] := List.eq_nil_of_length_eq_zero (by simpa using hl); subst hn; refine ⟨.slice none 0 0, w, ?_, ⟨by simp, .inl ⟨rfl, rfl⟩⟩, ⟨rfl, rfl, rfl, NR _, fun _ _ _ => rfl⟩, .inl rfl⟩; simp [Builtin.append_, run_underlying ht, sizeOf, typeInfo, hi, Builtin.lenOf, Builtin.firstCells, loadCells, loadCellsFrom]
   · have hr := run_append_nil (P := P) w t ty e i z ht hi hz a m c news hl hnews (by omega) (by omega) (by have hb := hbytes; simp only [Nat.zero_add] at hb; omega); have hgr := grown 0 (by omega) (Value.ownBlock (.slice none 0 0)); simp only [Nat.zero_add, List.nil_append, Array.empty_append] at hgr ⊢; exact ⟨_, _, hr, hgr.1, hgr.2, Or.inr rfl⟩
 · by_cases hroom : n + m ≤ cap
   · have hfit : n * i.size + news.length ≤ cur.size := by rw [hl, ← Nat.add_mul]; exact Nat.le_trans (Nat.mul_le_mul_right _ hroom) hcs
     have hr := run_append_room (P := P) w t ty e i ht hi g n cap cur hg a m c news hl hnews h1 hroom hfit; refine ⟨_, _, hr, ⟨hlen, .inr ⟨g, cap, _, rfl, hbg, setRow_heap w g cur _ e _ hg, hroom, hcm, ?_, ?_⟩⟩, ⟨rfl, rfl, rfl, by simp, fun k _ hk => setRow_other w g k _ (fun e => hk (by simp [Value.ownBlock, e]))⟩, Or.inl rfl⟩
     · simp only [List.size_toArray, List.length_append, List.length_take, List.length_drop, Array.length_toList]; omega
     · rw [htake, ← hlen]; exact List.take_left
   · have holds : ∀ j u, xs[j]? = some u → w.cell? ((⟨g, 0, none⟩ : Addr).add j) = some u := fun j u hj => hown.cell j u hj; have hr := run_append_grow (P := P) w t ty e i z ht hi hz ⟨g, 0, none⟩ n cap xs hown.1 holds a m c news hl hnews (by omega) (by omega) (growslice_fits (by omega) hbytes); have hgr := grown cap (by omega) (Value.ownBlock (.slice (some ⟨g, 0, none⟩) n cap)); exact ⟨_, _, hr, hgr.1, hgr.2, Or.inr rfl⟩
end
section
variable {P : Program} {ops : Array Oper} {o : Oper} {a : Act} {Q : Exit → Act → World → Prop} {K : Act → World → Prop} {rest : List Oper}
theorem step_append_loose (W : World) (base : Nat) (hw : Region.wanted o (yielded ops a.tmps) = true) (s x : Operand) (t e : TypeId) (z : Value) (size bytes : Nat)
 (ho : o.op = .call { callee := .builtin .append, args := #[s, x], argTypes := #[t, t] })
 (ht : P.underlying t = some (.slice e)) (hinfo : (P.info? e).map (fun i => (i.zero, i.size, i.bytes)) = some (some z, size, bytes)) (hz : z.cells.size = size) (hs0 : 0 < size) (hb0 : 0 < bytes)
 (v : Value) (n : Nat) (xs news : List Value) (A : Option Addr) (m c : Nat) (hs : a.eval s = v) (hx : a.eval x = .slice A m c) (hl : news.length = m * size) (h1 : ∀ u ∈ news, u.oneCell' = true)
 (HO : LRow W base e size v n xs) (hsrc : (v = .slice none 0 0 ∧ A = none ∧ m = 0 ∧ c = 0) ∨ ∃ a, A = some a ∧ ∀ j u, news[j]? = some u → W.cell? (a.add j) = some u) (hbase : base ≤ W.heap.size) (hlen : (n + m) * bytes ≤ 140737488355328)
 (h : ∀ v1 w1, LRow w1 base e size v1 (n + m) (xs ++ news) → W.grownBy w1 v.ownBlock → (v1.ownBlock = v.ownBlock ∨ v1.ownBlock = some W.heap.size) → K (a.put o.dst v1) w1) :
 if Region.wanted o (yielded ops a.tmps) = true then Oper.wp P o a W K Q else K (a.put o.dst undef) W := by
 obtain ⟨i0, hi, hzz⟩ := Option.map_eq_some_iff.1 hinfo; simp only [Prod.mk.injEq] at hzz; obtain ⟨hz0, hz1, hz2⟩ := hzz; have hlen' : n + m ≤ 140737488355328 := Nat.le_trans (Nat.le_mul_of_pos_right _ hb0) hlen; rw [if_pos hw]; obtain ⟨v1, w1, hr, hown, hg, hat⟩ := run_append_loose (P := P) W base t o.type e i0 z size bytes ht hi hz0 hz1 hz2 hz hs0 v n xs HO A m c news hl hsrc h1 (by simp only [maxLen]; omega) hlen hbase; unfold Oper.wp execOp; simp only [ho, resolve, invoke, builtin, Sem.run_bind, Sem.run_pure, Result.andThen_ok, MA, List.map_cons, List.map_nil, hs, hx, hr]; exact h v1 w1 hown hg hat
theorem wpList_append_loose (W : World) (base : Nat) (hgd : o.guard = none) (s x : Operand) (t e : TypeId) (z : Value) (size bytes : Nat)
 (ho : o.op = .call { callee := .builtin .append, args := #[s, x], argTypes := #[t, t] })
 (ht : P.underlying t = some (.slice e)) (hinfo : (P.info? e).map (fun i => (i.zero, i.size, i.bytes)) = some (some z, size, bytes)) (hz : z.cells.size = size) (hs0 : 0 < size) (hb0 : 0 < bytes)
 (v : Value) (n : Nat) (xs news : List Value) (A : Option Addr) (m c : Nat) (hs : a.eval s = v) (hx : a.eval x = .slice A m c) (hl : news.length = m * size) (h1 : ∀ u ∈ news, u.oneCell' = true)
 (HO : LRow W base e size v n xs) (hsrc : (v = .slice none 0 0 ∧ A = none ∧ m = 0 ∧ c = 0) ∨ ∃ a, A = some a ∧ ∀ j u, news[j]? = some u → W.cell? (a.add j) = some u) (hbase : base ≤ W.heap.size) (hlen : (n + m) * bytes ≤ 140737488355328)
 (h : ∀ v1 w1, LRow w1 base e size v1 (n + m) (xs ++ news) → W.grownBy w1 v.ownBlock → (v1.ownBlock = v.ownBlock ∨ v1.ownBlock = some W.heap.size) → wpList P ops Q rest (a.put o.dst v1) w1) :
 wpList P ops Q (o :: rest) a W := by
 obtain ⟨i0, hi, hzz⟩ := Option.map_eq_some_iff.1 hinfo; simp only [Prod.mk.injEq] at hzz; obtain ⟨hz0, hz1, hz2⟩ := hzz; have hlen' : n + m ≤ 140737488355328 := Nat.le_trans (Nat.le_mul_of_pos_right _ hb0) hlen; refine wpList_plain hgd fun K hK => ?_; obtain ⟨v1, w1, hr, hown, hg, hat⟩ := run_append_loose (P := P) W base t o.type e i0 z size bytes ht hi hz0 hz1 hz2 hz hs0 v n xs HO A m c news hl hsrc h1 (by simp only [maxLen]; omega) hlen hbase; unfold Oper.wp execOp; simp only [ho, resolve, invoke, builtin, Sem.run_bind, Sem.run_pure, Result.andThen_ok, MA, List.map_cons, List.map_nil, hs, hx, hr]; exact hK _ _ (h v1 w1 hown hg hat)
end
end
end Go.Proofs.YtoopeamoejmjeaaGreat
namespace Go.Proofs.YtoopeamoejmjeaaGreat.Tm
open RowKit
section
structure Asn where
 P : List Nat → World → Prop
 stable : ∀ S W W', P S W → (∀ k ∈ S, W'.heap[k]? = W.heap[k]?) → P S W'
 live : ∀ S W, P S W → ∀ k ∈ S, k < W.heap.size
structure Keeps (S : List Nat) (W W' : World) : Prop where
 os : W'.os = W.os
 tape : W'.tape = W.tape
 output : W'.output = W.output
 size : W.heap.size ≤ W'.heap.size
 block : ∀ k, k < W.heap.size → k ∉ S → W'.heap[k]? = W.heap[k]?
theorem Keeps.refl (S : List Nat) (W : World) : Keeps S W W := ⟨rfl, rfl, rfl, NR _, fun _ _ _ => rfl⟩
theorem Keeps.trans {S : List Nat} {a b c : World} (h : Keeps S a b) (k : Keeps S b c) : Keeps S a c :=
 ⟨k.os.trans h.os, k.tape.trans h.tape, k.output.trans h.output, Nat.le_trans h.size k.size, fun i hi hn => (k.block i (Nat.lt_of_lt_of_le hi h.size) hn).trans (h.block i hi hn)⟩
theorem Keeps.trans' {S S' : List Nat} {a b c : World} (h : Keeps S a b) (k : Keeps S' b c) (hs : ∀ x ∈ S', x ∈ S ∨ a.heap.size ≤ x) : Keeps S a c :=
 ⟨k.os.trans h.os, k.tape.trans h.tape, k.output.trans h.output, Nat.le_trans h.size k.size, fun i hi hn => (k.block i (Nat.lt_of_lt_of_le hi h.size) (fun hm => by
  rcases hs i hm with h1 | h1
  · exact hn h1
  · omega)).trans (h.block i hi hn)⟩
theorem Keeps.mono {S S' : List Nat} {a b : World} (h : Keeps S a b) (hs : ∀ x ∈ S, x ∈ S' ∨ a.heap.size ≤ x) : Keeps S' a b :=
 ⟨h.os, h.tape, h.output, h.size, fun k hk hn => h.block k hk (fun hm => by
  rcases hs k hm with h1 | h1
  · exact hn h1
  · omega)⟩
theorem Keeps.of_below {W W' : World} (h : Below W.heap.size W W') (S : List Nat) : Keeps S W W' := ⟨h.os, h.tape, h.output, h.size, fun k hk _ => h.block k hk⟩
theorem Keeps.of_grown {W W' : World} {row : Option Nat} (h : W.grownBy W' row) (S : List Nat) (hs : ∀ k, row = some k → k ∈ S ∨ W.heap.size ≤ k) : Keeps S W W' :=
 ⟨h.os, h.tape, h.output, h.size, fun k hk hn => h.block k hk (fun e => by
  rcases hs k e.symm with h1 | h1
  · exact hn h1
  · omega)⟩
theorem Keeps.setCell {W W' : World} {S : List Nat} (h : Keeps S W W') (b o : Nat) (v : Value) (hb : b ∈ S ∨ W.heap.size ≤ b) : Keeps S W (W'.setCell ⟨b, o, none⟩ v) :=
 ⟨h.os, h.tape, h.output, by simpa [World.setCell] using h.size, fun k hk hn => (BH W' ⟨b, o, none⟩ v k (fun e => by
  have e' : k = b := e; subst e'; rcases hb with h1 | h1
  · exact hn h1
  · omega)).trans (h.block k hk hn)⟩
theorem Keeps.cell {S : List Nat} {W W' : World} (h : Keeps S W W') {b o : Nat} {v : Value} (hc : W.cell? ⟨b, o, none⟩ = some v) (hb : b ∉ S) : W'.cell? ⟨b, o, none⟩ = some v := by
 have hlt : b < W.heap.size := World.block_lt_of_cell? W _ hc; unfold World.cell? at hc ⊢; dsimp only at hc ⊢; rw [h.block b hlt hb]; exact hc
structure Ent where
 asn : Asn
 own : List Nat
def Ent.is (W : World) (x : Ent) : Prop := x.asn.P x.own W
def Ent.apart (x y : Ent) : Prop := ∀ k ∈ x.own, k ∉ y.own
theorem Ent.apart_symm {x y : Ent} (h : x.apart y) : y.apart x := fun k hk hx => h k hx hk
def Has (w0 W : World) (L : List Asn) : Prop := ∃ L' : List Ent, L'.map Ent.asn = L ∧ Below w0.heap.size w0 W ∧ (∀ x ∈ L', x.is W ∧ ∀ k ∈ x.own, w0.heap.size ≤ k) ∧ L'.Pairwise Ent.apart
section
variable {w0 W W1 : World} {L M L1 L2 : List Asn} {a b : Asn}
theorem Has.empty (h : Below w0.heap.size w0 W) : Has w0 W [] := ⟨[], rfl, h, fun x hx => by (cases hx), List.Pairwise.nil⟩
theorem Has.below (h : Has w0 W L) : Below w0.heap.size w0 W := by
 obtain ⟨_, _, h, _⟩ := h; exact h
theorem Has.step (h : Has w0 W L) (hb : Below W.heap.size W W1) : Has w0 W1 L := by
 obtain ⟨L', rfl, h1, h2, h3⟩ := h; exact ⟨L', rfl, h1.trans (hb.mono h1.size), fun x hx => ⟨x.asn.stable _ _ _ (h2 x hx).1 (fun k hk => hb.block k (x.asn.live _ _ (h2 x hx).1 k hk)), (h2 x hx).2⟩, h3⟩
theorem Has.sub (h : Has w0 W L) (hs : M.Sublist L) : Has w0 W M := by
 obtain ⟨L', rfl, h1, h2, h3⟩ := h; obtain ⟨M', hs', rfl⟩ := List.sublist_map_iff.1 hs; exact ⟨M', rfl, h1, fun x hx => h2 x (hs'.subset hx), h3.sublist hs'⟩
theorem Has.get (h : Has w0 W L) (ha : a ∈ L) : ∃ S, a.P S W ∧ ∀ k ∈ S, w0.heap.size ≤ k := by
 obtain ⟨L', rfl, h1, h2, h3⟩ := h; obtain ⟨x, hx, rfl⟩ := List.mem_map.1 ha; exact ⟨x.own, (h2 x hx).1, (h2 x hx).2⟩
theorem Has.add (h : Has w0 W L) (hb : Below W.heap.size W W1) (S : List Nat) (hS : ∀ k ∈ S, W.heap.size ≤ k) (ha : a.P S W1) : Has w0 W1 (a :: L) := by
 obtain ⟨L', rfl, h1, h2, h3⟩ := h; refine ⟨⟨a, S⟩ :: L', rfl, h1.trans (hb.mono h1.size), fun y hy => ?_, List.Pairwise.cons (fun y hy => ?_) h3⟩
 · rcases List.mem_cons.1 hy with rfl | hy
   · exact ⟨ha, fun k hk => Nat.le_trans h1.size (hS k hk)⟩
   · exact ⟨y.asn.stable _ _ _ (h2 y hy).1 (fun k hk => hb.block k (y.asn.live _ _ (h2 y hy).1 k hk)), (h2 y hy).2⟩
 · intro k hk hk'; have := y.asn.live _ _ (h2 y hy).1 k hk'; have := hS k hk; omega
theorem Has.turn (h : Has w0 W (L1 ++ a :: L2)) (hT : ∀ S, a.P S W → ∃ S', b.P S' W1 ∧ Keeps S W W1 ∧ ∀ k ∈ S', k ∈ S ∨ W.heap.size ≤ k) : Has w0 W1 (L1 ++ b :: L2) := by
 obtain ⟨L', hm, h1, h2, h3⟩ := h; obtain ⟨M1, M', rfl, rfl, hm2⟩ := List.map_eq_append_iff.1 hm; obtain ⟨x, M2, rfl, rfl, rfl⟩ := List.map_eq_cons_iff.1 hm2; have hxm : x ∈ M1 ++ x :: M2 := by simp
 obtain ⟨S', hb', hk, hn⟩ := hT _ (h2 x hxm).1; have ap : ∀ y, y ∈ M1 ∨ y ∈ M2 → x.apart y := by
  intro y hy; rw [List.pairwise_append, List.pairwise_cons] at h3; rcases hy with hy | hy
  · exact Ent.apart_symm (h3.2.2 y hy x (by simp))
  · exact h3.2.1.1 y hy
 have far : ∀ y, y ∈ M1 ∨ y ∈ M2 → y.is W1 ∧ (∀ k ∈ y.own, w0.heap.size ≤ k) ∧ (⟨b, S'⟩ : Ent).apart y := by
  intro y hy; have hym : y ∈ M1 ++ x :: M2 := by rcases hy with hy | hy <;> simp [hy]
  have hyi := h2 y hym; have hlv := y.asn.live _ _ hyi.1; refine ⟨y.asn.stable _ _ _ hyi.1 (fun k hk2 => hk.block k (hlv k hk2) (fun hx => ap y hy k hx hk2)), hyi.2, fun k hk2 hky => ?_⟩; rcases hn k hk2 with h4 | h4
  · exact ap y hy k h4 hky
  · have := hlv k hky; omega
 refine ⟨M1 ++ ⟨b, S'⟩ :: M2, by simp, ⟨hk.os.trans h1.os, hk.tape.trans h1.tape, hk.output.trans h1.output, Nat.le_trans h1.size hk.size, fun k hk2 => (hk.block k (Nat.lt_of_lt_of_le hk2 h1.size) (fun hx => by have := (h2 x hxm).2 k hx; omega)).trans (h1.block k hk2)⟩, fun y hy => ?_, ?_⟩
 · rcases List.mem_append.1 hy with hy | hy
   · exact ⟨(far y (.inl hy)).1, (far y (.inl hy)).2.1⟩
   · rcases List.mem_cons.1 hy with rfl | hy
     · exact ⟨hb', fun k hk2 => by
        rcases hn k hk2 with h4 | h4
        · exact (h2 x hxm).2 k h4
        · exact Nat.le_trans h1.size h4⟩
     · exact ⟨(far y (.inr hy)).1, (far y (.inr hy)).2.1⟩
 · rw [List.pairwise_append, List.pairwise_cons] at h3 ⊢; refine ⟨h3.1, ⟨fun y hy => (far y (.inr hy)).2.2, h3.2.1.2⟩, fun p hp q hq => ?_⟩; rcases List.mem_cons.1 hq with rfl | hq
   · exact Ent.apart_symm (far p (.inl hp)).2.2
   · exact h3.2.2 p hp q (by simp [hq])
end
def ownL (v : Value) : List Nat := match v.ownBlock with
 | some k => [k]
 | none => []
theorem mem_ownL {v : Value} {k : Nat} : k ∈ ownL v ↔ v.ownBlock = some k := by
 unfold ownL; split
 · rename_i j hj; rw [List.mem_singleton, hj]; exact ⟨fun h => by rw [h], fun h => (Option.some.inj h).symm⟩
 · rename_i hj; rw [hj]; simp
def rowA (e size n : Nat) (v : Value) (xs : List Value) : Asn where
 P S W := S = ownL v ∧ LRow W 0 e size v n xs
 stable := by
  rintro S W W' ⟨rfl, h⟩ hk; exact ⟨rfl, h.move (fun k hk2 => hk k (mem_ownL.2 hk2))⟩
 live := by
  rintro S W ⟨rfl, h⟩ k hk; exact (h.lt k (mem_ownL.1 hk)).1
def boxA (b : Nat) (t : TypeId) (cs : Array Value) : Asn where
 P S W := S = [b] ∧ W.heap[b]? = some (.cells cs t (0, 0))
 stable := by
  rintro S W W' ⟨rfl, h⟩ hk; exact ⟨rfl, (hk b (by simp)).trans h⟩
 live := by
  rintro S W ⟨rfl, h⟩ k hk; rw [List.mem_singleton] at hk; rw [hk]; exact (ltA h)
end
end Go.Proofs.YtoopeamoejmjeaaGreat.Tm
namespace Go.Proofs.YtoopeamoejmjeaaGreat.Tp
open RowKit YtoopeamoejmjeaaGreatW.PrintWords YtoopeamoejmjeaaGreatW.PrintLast Tm
structure Kind where
 name : ByteArray
 args : Int
 low : Int
 high : Int
def Kind.cells (k : Kind) : Array Value := #[.string k.name, O Y k.args, O Y k.low, O Y k.high]
def kindsL : List Kind := [⟨⟨#[]⟩, 0, 0, 0⟩, ⟨⟨#[80, 85, 83, 72]⟩, 1, (-9223372036854775808), 9223372036854775807⟩, ⟨⟨#[68, 82, 79, 80]⟩, 0, 0, 0⟩, ⟨⟨#[68, 85, 80]⟩, 0, 0, 0⟩, ⟨⟨#[83, 87, 65, 80]⟩, 0, 0, 0⟩, ⟨⟨#[84, 87, 79]⟩, 1, 1, 12⟩, ⟨⟨#[78, 69, 71]⟩, 0, 0, 0⟩, ⟨⟨#[78, 79, 84]⟩, 0, 0, 0⟩, ⟨⟨#[66, 79, 84, 72]⟩, 0, 0, 0⟩, ⟨⟨#[69, 73, 84, 72, 69, 82]⟩, 0, 0, 0⟩, ⟨⟨#[67, 65, 83, 84]⟩, 0, 0, 0⟩, ⟨⟨#[76, 79, 65, 68, 76]⟩, 1, 0, 7⟩, ⟨⟨#[83, 84, 79, 82, 69, 76]⟩, 1, 0, 7⟩, ⟨⟨#[76, 79, 65, 68, 82]⟩, 1, 0, 7⟩, ⟨⟨#[83, 84, 79, 82, 69, 82]⟩, 1, 0, 7⟩, ⟨⟨#[73, 78]⟩, 1, 0, 15⟩, ⟨⟨#[79, 85, 84]⟩, 1, 0, 15⟩, ⟨⟨#[71, 69, 84]⟩, 2, 0, 7⟩, ⟨⟨#[80, 85, 84]⟩, 2, 0, 7⟩, ⟨⟨#[74, 85, 77, 80]⟩, 1, 0, 199⟩, ⟨⟨#[66, 82, 65, 78, 67, 72]⟩, 1, 0, 199⟩, ⟨⟨#[76, 79, 79, 80]⟩, 1, 1, 1000⟩, ⟨⟨#[78, 69, 88, 84]⟩, 0, 0, 0⟩, ⟨⟨#[76, 79, 67, 75]⟩, 1, 0, 7⟩, ⟨⟨#[85, 78, 76, 79, 67, 75]⟩, 1, 0, 7⟩, ⟨⟨#[69, 78, 68]⟩, 0, 0, 0⟩]
def kindsC : Array Value := #[.string ⟨#[]⟩, O Y 0, O Y 0, O Y 0, .string ⟨#[80, 85, 83, 72]⟩, O Y 1, O Y (-9223372036854775808), O Y 9223372036854775807, .string ⟨#[68, 82, 79, 80]⟩, O Y 0, O Y 0, O Y 0, .string ⟨#[68, 85, 80]⟩, O Y 0, O Y 0, O Y 0, .string ⟨#[83, 87, 65, 80]⟩, O Y 0, O Y 0, O Y 0, .string ⟨#[84, 87, 79]⟩, O Y 1, O Y 1, O Y 12, .string ⟨#[78, 69, 71]⟩, O Y 0, O Y 0, O Y 0, .string ⟨#[78, 79, 84]⟩, O Y 0, O Y 0, O Y 0, .string ⟨#[66, 79, 84, 72]⟩, O Y 0, O Y 0, O Y 0, .string ⟨#[69, 73, 84, 72, 69, 82]⟩, O Y 0, O Y 0, O Y 0, .string ⟨#[67, 65, 83, 84]⟩, O Y 0, O Y 0, O Y 0, .string ⟨#[76, 79, 65, 68, 76]⟩, O Y 1, O Y 0, O Y 7, .string ⟨#[83, 84, 79, 82, 69, 76]⟩, O Y 1, O Y 0, O Y 7, .string ⟨#[76, 79, 65, 68, 82]⟩, O Y 1, O Y 0, O Y 7, .string ⟨#[83, 84, 79, 82, 69, 82]⟩, O Y 1, O Y 0, O Y 7, .string ⟨#[73, 78]⟩, O Y 1, O Y 0, O Y 15, .string ⟨#[79, 85, 84]⟩, O Y 1, O Y 0, O Y 15, .string ⟨#[71, 69, 84]⟩, O Y 2, O Y 0, O Y 7, .string ⟨#[80, 85, 84]⟩, O Y 2, O Y 0, O Y 7, .string ⟨#[74, 85, 77, 80]⟩, O Y 1, O Y 0, O Y 199, .string ⟨#[66, 82, 65, 78, 67, 72]⟩, O Y 1, O Y 0, O Y 199, .string ⟨#[76, 79, 79, 80]⟩, O Y 1, O Y 1, O Y 1000, .string ⟨#[78, 69, 88, 84]⟩, O Y 0, O Y 0, O Y 0, .string ⟨#[76, 79, 67, 75]⟩, O Y 1, O Y 0, O Y 7, .string ⟨#[85, 78, 76, 79, 67, 75]⟩, O Y 1, O Y 0, O Y 7, .string ⟨#[69, 78, 68]⟩, O Y 0, O Y 0, O Y 0]
theorem wpList_built {P : Program} {ops : Array Oper} {rest : List Oper} {o : Oper} {a : Act} {w : World} {Q : Exit → Act → World → Prop} (hg : o.guard = none) (t : TypeId) (parts : Array (Nat × Operand)) (cs : Array Value) (ho : o.op = .build t parts)
 (hf : P.built t (parts.map fun (i, x) => (i, a.eval x)).toList = some cs)
 (h : wpList P ops Q rest (a.put o.dst (.agg cs)) w) : wpList P ops Q (o :: rest) a w :=
 wpList_build hg t parts ho (by rw [hf]; rfl) (by rw [hf]; exact h)
theorem wpList_store_new {P : Program} {ops : Array Oper} {rest : List Oper} {o : Oper} {a : Act} {Q : Exit → Act → World → Prop} (hgd : o.guard = none) (ty : TypeId) (x y : Operand) (ho : o.op = .store ty x y) (w : World) (cells old : Array Value) (t : TypeId)
 (hx : a.eval x = .pointer (some ⟨w.heap.size, 0, none⟩)) (hy : a.eval y = .agg cells) (hi : (P.info? ty).map (·.size) = some cells.size) (hold : old.size = cells.size) (h1 : cells.all (·.oneCell') = true)
 (h : wpList P ops Q rest (a.put o.dst undef) (w.alloc (.cells cells t))) : wpList P ops Q (o :: rest) a (w.alloc (.cells old t)) :=
 wpList_store_row hgd ty x y ho w.heap.size cells hx hy t old (heap_alloc_last w _) hi hold h1 (by rw [World.setRow_alloc_new]; exact h)
theorem kinds_any (w : World) : Calls Tryz.prog 154 #[] w fun e w' => e = .returned (.agg kindsC) ∧ Below w.heap.size w w' := by
 go_enter Tryz.func154, Tryz.ntmps154; go_wp2_with (first | (refine wpList_built rfl 268 _ kindsC rfl (by kernel_rfl) ?_) | (refine wpList_store_new rfl 268 _ _ rfl w kindsC Tryz.zeroCells268 268 rfl rfl (by kernel_rfl) (by kernel_rfl) (by kernel_rfl) ?_; have hsz : (Tryz.prog.info? 268).map (·.size) = some kindsC.size := (by kernel_rfl); generalize hkc : kindsC = kc at *) | fail)
 rw [hkc]; exact bodyPost_ret (results_cell_row rfl _ _ w.heap.size 268 kc (0, 0) _ rfl (heap_alloc_last w _) Tryz.underlying268 rfl hsz) rfl ⟨rfl, (BR _ _).alloc (NR _) _⟩
def kindOf (op : Int) : Kind := if op < 1 ∨ 25 < op then ⟨⟨#[]⟩, -1, 0, 0⟩ else kindsL.getD op.toNat ⟨⟨#[]⟩, 0, 0, 0⟩
theorem Below.setRow {B : Nat} {w w1 : World} (h : Below B w w1) {g : Nat} (cs : Array Value) (hg : B ≤ g) : Below B w (w1.setRow g cs) :=
 ⟨h.os, h.tape, h.output, by rw [setRow_size]; exact h.size, fun k hk => (setRow_other w1 g k cs (by omega)).trans (h.block k hk)⟩
theorem kinds_at (n : Nat) (hn : n < 26) : (kindsC.extract (n * 4) (n * 4 + 4)) = (kindsL.getD n ⟨⟨#[]⟩, 0, 0, 0⟩).cells := by
 rcases (by omega : n = 0 ∨ n = 1 ∨ n = 2 ∨ n = 3 ∨ n = 4 ∨ n = 5 ∨ n = 6 ∨ n = 7 ∨ n = 8 ∨ n = 9 ∨ n = 10 ∨ n = 11 ∨ n = 12 ∨ n = 13 ∨ n = 14 ∨ n = 15 ∨ n = 16 ∨ n = 17 ∨ n = 18 ∨ n = 19 ∨ n = 20 ∨ n = 21 ∨ n = 22 ∨ n = 23 ∨ n = 24 ∨ n = 25) with rfl | rfl | rfl | rfl | rfl | rfl | rfl | rfl | rfl | rfl | rfl | rfl | rfl | rfl | rfl | rfl | rfl | rfl | rfl | rfl | rfl | rfl | rfl | rfl | rfl | rfl <;> rfl
theorem info252 : (Tryz.prog.info? 252).map (·.size) = some 4 := by kernel_rfl
theorem index_kinds (n : Nat) (hn : n < 26) (w : World) (hk : kindOf (n : Int) = kindsL.getD n ⟨⟨#[]⟩, 0, 0, 0⟩) : (Instr.index 268 (.agg kindsC) (O Y (n : Int))).run Tryz.prog w = .ok (.agg (kindOf (n : Int)).cells) w := by
 have h1 := kinds_at n hn; rw [hk, ← h1]; have h2 : (n : Int) < 26 := by omega
 generalize kindsC = kc at *; obtain ⟨i0, hi, hz⟩ := Option.map_eq_some_iff.1 info252; simp [Instr.index, run_underlying Tryz.underlying268, asIntOf, h2, part, sizeOf, typeInfo, hi, hz]; intro h; omega
theorem of_any (op : Int) (w : World) : Calls Tryz.prog 134 #[O Y op] w fun e w' => e = .returned (.agg (kindOf op).cells) ∧ Below w.heap.size w w' := by
 by_cases h1 : op < 1
 · have d1 : decide (op < 1) = true := decide_eq_true h1; have hk : kindOf op = ⟨⟨#[]⟩, -1, 0, 0⟩ := if_pos (.inl h1); replace hk := ZZ hk; clear h1; go_enter Tryz.func134, Tryz.ntmps134; go_wp2_with fail; refine bodyPost_ret (results_cell_row rfl _ _ w.heap.size 252 _ (0, 0) _ rfl (heap_alloc_last w _) Tryz.underlying252 rfl (by kernel_rfl)) rfl ⟨?_, (BR _ _).alloc (NR _) _⟩; rw [hk.out]; rfl
 · have d1 : decide (op < 1) = false := decide_eq_false h1; by_cases h2 : 25 < op
   · have d2 : decide (25 < op) = true := decide_eq_true h2; have hk : kindOf op = ⟨⟨#[]⟩, -1, 0, 0⟩ := if_pos (.inr h2); replace hk := ZZ hk; clear h1 h2; go_enter Tryz.func134, Tryz.ntmps134; go_wp2_with fail; refine bodyPost_ret (results_cell_row rfl _ _ w.heap.size 252 _ (0, 0) _ rfl (heap_alloc_last w _) Tryz.underlying252 rfl (by kernel_rfl)) rfl ⟨?_, (BR _ _).alloc (NR _) _⟩; rw [hk.out]; rfl
   · have d2 : decide (25 < op) = false := decide_eq_false h2; obtain ⟨n, rfl⟩ : ∃ n : Nat, op = (n : Int) := ⟨op.toNat, by omega⟩
     have hn : n < 26 := by omega
     have hk : kindOf (n : Int) = kindsL.getD n ⟨⟨#[]⟩, 0, 0, 0⟩ := by unfold kindOf; rw [if_neg (by omega)]; rfl
     go_enter Tryz.func134, Tryz.ntmps134; go_wp2_with fail; refine (kinds_any _).mono ?_; rintro e w1 ⟨rfl, hb⟩; have hix : (Instr.index 268 (.agg kindsC) (O Y (n : Int))).run Tryz.prog w1 = .ok (.agg (kindOf (n : Int)).cells) w1 := index_kinds n hn w1 hk; replace hk := ZZ hk; replace hix := ZZ hix; generalize kindsC = kc at *; have hbl := (hb.block w.heap.size (by simp)).trans (heap_alloc_last w _); go_wp2_with fail; rw [hix.out]; have hB2 := hb; generalize hkd : kindOf (n : Int) = kd at *; replace hkd := ZZ hkd; have hcs : kd.cells.all (·.oneCell') = true := by cases kd; simp [Kind.cells, Value.oneCell']
     go_wp2_with (first | (refine wpList_store_row rfl 252 _ _ rfl w.heap.size kd.cells rfl rfl 252 _ hbl (by simpa [Kind.cells] using info252) rfl hcs ?_) | fail)
     refine bodyPost_ret (results_cell_row rfl _ _ w.heap.size 252 kd.cells (0, 0) _ rfl (setRow_heap _ _ _ _ _ _ hbl) Tryz.underlying252 rfl (by simpa [Kind.cells] using info252)) rfl ⟨by rw [hkd.out], ?_⟩; exact Below.setRow (((BR _ _).alloc (NR _) _).trans (hB2.mono (by simp))) _ (NR _)
end Go.Proofs.YtoopeamoejmjeaaGreat.Tp
namespace Go.Proofs.YtoopeamoejmjeaaGreat.Tp
open RowKit YtoopeamoejmjeaaGreatW.PrintLast
section
section
variable {P : Program} {ops : Array Oper} {Q : Exit → Act → World → Prop} {md : Region.Mode} {S : World → Prop} {ds : List Nat} {fuel : Nat} {l : Array Bool} {a a' : Act} {w : World} {oi : Oper} {v : Value}
theorem st (n : Nat) {id : Nat} (hS : S w.drew) (h : S w.drew → wpAnyLast P .any ops Q S ds n (Array.replicate n false) a w.drew) (hn : ops.size = n := by exact rfl) (hmd : P.follows .mixedOrders = true := by kernel_rfl) : (Code.region id ops true).wp P Q a w := by
 subst hn; exact wp_region_last hmd (h hS)
theorem pq (i : Nat) (h : wpAnyLast P md ops Q S ds fuel (l.setIfInBounds i true) a' w) (hi : ops[i]? = some oi := by (simp only [List.getElem?_toArray, List.getElem?_cons_succ, List.getElem?_cons_zero]; rfl)) (hc : anyB md ops l (l.setIfInBounds i true) i = true := by kernel_rfl)
 (hQ : ∀ c a w, Q (.panic c) (a.put oi.dst v) w → Q (.panic c) a w := by exact fun _ _ _ h => h) (hw : Region.wanted oi (yielded ops a.tmps) = true := by rfl)
 (hy : ∀ w, (execOp a.eval oi).run P w = .ok (.value v) w := by (intro w'; go_simp; first | with_reducible rfl | rfl))
 (ha : a.put oi.dst v = a' := by (simp only [Act.put, List.setIfInBounds_toArray, List.set_cons_zero, List.set_cons_succ, i64_w, i32_w]; rfl)) : wpAnyLast P md ops Q S ds (fuel + 1) l a w :=
 pure_ (i := i) (N := oi.dst) (l.setIfInBounds i true) hi rfl hc hQ (.inl ⟨hw, hy⟩) ha h
theorem po (i : Nat) (h : wpAnyLast P md ops Q S ds fuel (l.setIfInBounds i true) a' w) (hi : ops[i]? = some oi := by (simp only [List.getElem?_toArray, List.getElem?_cons_succ, List.getElem?_cons_zero]; rfl)) (hc : anyB md ops l (l.setIfInBounds i true) i = true := by kernel_rfl)
 (hQ : ∀ c a w, Q (.panic c) (a.put oi.dst undef) w → Q (.panic c) a w := by exact fun _ _ _ h => h) (hw : Region.wanted oi (yielded ops a.tmps) = false := by rfl)
 (ha : a.put oi.dst undef = a' := by (simp only [Act.put, List.setIfInBounds_toArray, List.set_cons_zero, List.set_cons_succ]; rfl)) : wpAnyLast P md ops Q S ds (fuel + 1) l a w :=
 pure_ (i := i) (N := oi.dst) (l.setIfInBounds i true) hi rfl hc hQ (.inr ⟨hw, rfl⟩) ha h
theorem tk (i : Nat) (hS : S w) (h : wpAnyLast P md ops Q S ds fuel (l.setIfInBounds i true) a' w) (hi : ops[i]? = some oi := by (simp only [List.getElem?_toArray, List.getElem?_cons_succ, List.getElem?_cons_zero]; rfl)) (hc : takeB md ops ds l (l.setIfInBounds i true) i = true := by kernel_rfl)
 (hQ : ∀ c a w, Q (.panic c) (a.put oi.dst v) w → Q (.panic c) a w := by exact fun _ _ _ h => h) (hw : Region.wanted oi (yielded ops a.tmps) = true := by rfl)
 (hy : ∀ w, S w → (execOp a.eval oi).run P w = .ok (.value v) w := by (intro w' s0; (try dsimp only at s0); go_simp; first | with_reducible rfl | rfl))
 (ha : a.put oi.dst v = a' := by (simp only [Act.put, List.setIfInBounds_toArray, List.set_cons_zero, List.set_cons_succ, i64_w, i32_w]; rfl)) : wpAnyLast P md ops Q S ds (fuel + 1) l a w :=
 take_ (i := i) (N := oi.dst) (l.setIfInBounds i true) hi rfl hc hQ (.inl ⟨hw, hy⟩) hS ha h
theorem rg1 (i : Nat) (h : ∀ K : Act → World → Prop, Shut (∀ a' w', S w' → (S w' → wpAnyLast P md ops Q S ds fuel (l.setIfInBounds i true) a' w') → K a' w') → if Region.wanted oi (yielded ops a.tmps) = true then Oper.wp P oi a w K Q else K (a.put oi.dst undef) w)
 (hi : ops[i]? = some oi := by (simp only [List.getElem?_toArray, List.getElem?_cons_succ, List.getElem?_cons_zero]; rfl)) (hc : readyB md ops l (l.setIfInBounds i true) i = true := by kernel_rfl) (hd : i ∉ ds := by decide) : wpAnyLast P md ops Q S ds (fuel + 1) l a w :=
 one_ (i := i) (N := oi.dst) (l.setIfInBounds i true) hi rfl hc hd h
theorem rg2 (i : Nat) (h : ∀ K : Act → World → Prop, Shut (∀ a' w', wpAnyLast P md ops Q S ds fuel (l.setIfInBounds i true) a' w' → K a' w') → if Region.wanted oi (yielded ops a.tmps) = true then Oper.wp P oi a w K Q else K (a.put oi.dst undef) w)
 (hi : ops[i]? = some oi := by (simp only [List.getElem?_toArray, List.getElem?_cons_succ, List.getElem?_cons_zero]; rfl)) (hc : readyB md ops l (l.setIfInBounds i true) i = true := by kernel_rfl) (hd : i ∈ ds := by decide) : wpAnyLast P md ops Q S ds (fuel + 1) l a w :=
 last_ (i := i) (N := oi.dst) (l.setIfInBounds i true) hi rfl hc hd h
theorem nm (h : wpAnyLast P md ops Q S ds fuel l a' w) (ha : a = a' := by (simp only [putAll, Act.put, List.setIfInBounds_toArray, List.set_cons_zero, List.set_cons_succ, i64_w, i32_w]; rfl)) : wpAnyLast P md ops Q S ds fuel l a w := norm_ ha h
theorem dn (h : Q .normal a w) (hr : (Region.ready md ops l == []) = true := by kernel_rfl) : wpAnyLast P md ops Q S ds fuel l a w := done_ hr h
end
end
end Go.Proofs.YtoopeamoejmjeaaGreat.Tp
namespace Go.Proofs.YtoopeamoejmjeaaGreat.Tp
open RowKit YtoopeamoejmjeaaGreatW.PrintWords YtoopeamoejmjeaaGreatW.PrintLast YtoopeamoejmjeaaGreatW.PrintMore Tm
theorem of_lit (op : Int) (w : World) {kd : Kind} (hk : kindOf op = kd) : Calls Tryz.prog 134 #[O Y op] w fun e w' => e = .returned (.agg #[.string kd.name, O Y kd.args, O Y kd.low, O Y kd.high]) ∧ Below w.heap.size w w' := by
 rw [← hk]; exact of_any op w
theorem field252 (n : ByteArray) (a l h : Int) (w : World) : (Instr.field 252 (.agg #[.string n, O Y a, O Y l, O Y h]) 1).run Tryz.prog w = .ok (O Y a) w := by
 obtain ⟨i0, hi, hz⟩ := Option.map_eq_some_iff.1 (show (Tryz.prog.info? 3).map (·.size) = some 1 by kernel_rfl); simp [Instr.field, run_underlying Tryz.underlying252, asAgg, part, sizeOf, typeInfo, hi, hz, isAgg, run_underlying Tryz.underlying3]
theorem args_any (op : Int) (w : World) : Calls Tryz.prog 93 #[O Y op] w fun e w' => e = .returned (O Y (kindOf op).args) ∧ Below w.heap.size w w' := by
 generalize hkd : kindOf op = kd; have hc := ZZ (of_lit op w hkd); clear hkd; go_enter Tryz.func93, Tryz.ntmps93; go_wp2_with fail; refine hc.out.mono ?_; rintro e w1 ⟨rfl, hb⟩; replace hb := ZZ hb; have hf := field252 kd.name kd.args kd.low kd.high w1; go_wp2_with fail; go_ret; exact ⟨rfl, hb.out⟩
theorem in_any (g : Nat) (kn : Value) (ka lo hi n : Int) (w : World) (h2 : w.cell? ⟨g, 2, none⟩ = some (O Y lo)) (h3 : w.cell? ⟨g, 3, none⟩ = some (O Y hi)) : Calls Tryz.prog 135 #[O Y n, .pointer (some ⟨g, 0, none⟩)] w fun e w' => e = .returned (.bool (decide (lo ≤ n ∧ n ≤ hi))) ∧ w' = w := by
 go_enter Tryz.func135, Tryz.ntmps135; by_cases h1 : lo ≤ n
 · go_wp2_with fail; go_ret; exact ⟨by simp [h1], rfl⟩
 · go_wp2_with fail; go_ret; exact ⟨by simp; omega, rfl⟩
def rightI (o a b : Int) : Bool := let k := kindOf o; if k.args = 0 then a == 0 && b == 0 else if k.args = 1 then decide (k.low ≤ a ∧ a ≤ k.high) && b == 0 else if k.args = 2 then decide (k.low ≤ a ∧ a ≤ k.high) && decide (k.low ≤ b ∧ b ≤ k.high) else false
theorem right_any (o a b : Int) (w : World) : Calls Tryz.prog 91 #[.agg #[O Y o, O Y a, O Y b]] w fun e w' => e = .returned (.bool (rightI o a b)) ∧ Below w.heap.size w w' := by
 generalize hkd : kindOf o = kd; have hc := fun w => of_lit o w hkd; obtain ⟨kn, ka, kl, kh⟩ := kd; have hr : rightI o a b = if ka = 0 then a == 0 && b == 0 else if ka = 1 then decide (kl ≤ a ∧ a ≤ kh) && b == 0 else if ka = 2 then decide (kl ≤ a ∧ a ≤ kh) && decide (kl ≤ b ∧ b ≤ kh) else false := by unfold rightI; rw [hkd]
 clear hkd; replace hc := ZZ hc; go_enter Tryz.func91, Tryz.ntmps91; go_wp2_with fail; refine (hc.out _).mono ?_; rintro e w1 ⟨rfl, hb⟩; have hbl := (hb.block w.heap.size (by simp)).trans (heap_alloc_last w _); have hbl2 := (Below.heap_alloc w1 (.cells #[.string kn, O Y ka, O Y kl, O Y kh] 252) w.heap.size (by have := hb.size; simp at this; omega)).trans hbl; have x1 : (w1.alloc (.cells #[.string kn, O Y ka, O Y kl, O Y kh] 252)).cell? ⟨w.heap.size, 1, none⟩ = some (O Y a) := (blk_cell hbl2 1).trans rfl; have x2 : (w1.alloc (.cells #[.string kn, O Y ka, O Y kl, O Y kh] 252)).cell? ⟨w.heap.size, 2, none⟩ = some (O Y b) := (blk_cell hbl2 2).trans rfl; have hk2 := heap_alloc_last w1 (.cells #[.string kn, O Y ka, O Y kl, O Y kh] 252); have k2 : (w1.alloc (.cells #[.string kn, O Y ka, O Y kl, O Y kh] 252)).cell? ⟨w1.heap.size, 2, none⟩ = some (O Y kl) := (blk_cell hk2 2).trans rfl; have k3 : (w1.alloc (.cells #[.string kn, O Y ka, O Y kl, O Y kh] 252)).cell? ⟨w1.heap.size, 3, none⟩ = some (O Y kh) := (blk_cell hk2 3).trans rfl; have hi := fun n => ZZ (in_any w1.heap.size (.string kn) ka kl kh n _ k2 k3); have hB := ZZ ((((BR w.heap.size w).alloc (NR _) (.cells #[O Y o, O Y a, O Y b] 127)).trans (hb.mono (by simp))).alloc (by have := hb.size; simp at this; omega) (.cells #[.string kn, O Y ka, O Y kl, O Y kh] 252)); clear hbl hbl2 hk2 hb hc k2 k3; replace hi := ZZ hi; by_cases c0 : ka = 0
 · have d0 : (ka == 0) = true := beq_iff_eq.mpr c0; rw [if_pos c0] at hr; clear c0; cases ha : (a == 0)
   · rw [ha] at hr; replace hr := ZZ hr; go_wp2_with fail; go_ret; exact ⟨by rw [hr.out]; rfl, hB.out⟩
   · rw [ha] at hr; replace hr := ZZ hr; go_wp2_with fail; go_ret; exact ⟨by rw [hr.out]; rfl, hB.out⟩
 · have d0 : (ka == 0) = false := beq_eq_false_iff_ne.mpr c0; rw [if_neg c0] at hr; clear c0; by_cases c1 : ka = 1
   · have d1 : (ka == 1) = true := beq_iff_eq.mpr c1; rw [if_pos c1] at hr; clear c1; go_wp2_with fail; refine (hi.out a).out.mono ?_; rintro e w2 ⟨rfl, rfl⟩; cases ha : decide (kl ≤ a ∧ a ≤ kh)
     · rw [ha] at hr; replace hr := ZZ hr; go_wp2_with fail; go_ret; exact ⟨by rw [hr.out]; rfl, hB.out⟩
     · rw [ha] at hr; replace hr := ZZ hr; go_wp2_with fail; go_ret; exact ⟨by rw [hr.out]; rfl, hB.out⟩
   · have d1 : (ka == 1) = false := beq_eq_false_iff_ne.mpr c1; rw [if_neg c1] at hr; clear c1; by_cases c2 : ka = 2
     · have d2 : (ka == 2) = true := beq_iff_eq.mpr c2; rw [if_pos c2] at hr; clear c2; go_wp2_with fail; refine (hi.out a).out.mono ?_; rintro e w2 ⟨rfl, rfl⟩; cases ha : decide (kl ≤ a ∧ a ≤ kh)
       · rw [ha] at hr; replace hr := ZZ hr; go_wp2_with fail; go_ret; exact ⟨by rw [hr.out]; rfl, hB.out⟩
       · rw [ha] at hr; replace hr := ZZ hr; go_wp2_with fail; refine (hi.out b).out.mono ?_; rintro e w3 ⟨rfl, rfl⟩; go_wp2_with fail; go_ret; exact ⟨by rw [hr.out, Bool.decide_and]; rfl, hB.out⟩
     · have d2 : (ka == 2) = false := beq_eq_false_iff_ne.mpr c2; rw [if_neg c2] at hr; replace hr := ZZ hr; clear c2; go_wp2_with fail; go_ret; exact ⟨by rw [hr.out]; rfl, hB.out⟩
section
theorem add_plain (b o : Nat) : (⟨b, 0, none⟩ : Addr).add o = ⟨b, o, none⟩ := by unfold Addr.add; split <;> simp_all
theorem wrapIn {x : Int} (h : -9223372036854775808 ≤ x ∧ x ≤ 9223372036854775807) : wrap64 x = x := by unfold wrap64; omega
theorem cell_keep {B : Nat} {w w1 : World} (h : Below B w w1) (hB : w.heap.size ≤ B) {p : Addr} {v : Value} (hc : w.cell? p = some v) : w1.cell? p = some v :=
 (h.cell (Nat.lt_of_lt_of_le (World.block_lt_of_cell? w _ hc) hB)).trans hc
theorem LRow.step {w w1 : World} {B e size n : Nat} {v : Value} {xs : List Value} (h : LRow w B e size v n xs) (hb : Below w.heap.size w w1) : LRow w1 B e size v n xs := h.move (fun k hk => hb.block k (LRow.lt h k hk).1)
theorem LRow.nil (w : World) (B e size : Nat) : LRow w B e size (.slice none 0 0) 0 [] := ⟨by simp, .inl ⟨rfl, rfl⟩⟩
section
variable {ops : Array Oper} {o : Oper} {a : Act} {Q : Exit → Act → World → Prop} {rest : List Oper}
theorem wpList_append_one (w0 W : World) (base : Nat) (hgd : o.guard = none) (s x : Operand) (t e : TypeId) (z : Value) (size bytes : Nat)
 (ho : o.op = .call { callee := .builtin .append, args := #[s, x], argTypes := #[t, t] })
 (ht : Tryz.prog.underlying t = some (.slice e)) (hinfo : (Tryz.prog.info? e).map (fun i => (i.zero, i.size, i.bytes)) = some (some z, size, bytes)) (hz : z.cells.size = size) (hs0 : 0 < size) (hb0 : 0 < bytes)
 (v : Value) (n : Nat) (xs : List Value) (cs : Array Value) (hs : a.eval s = v) (hx : a.eval x = .slice (some ⟨W.heap.size, 0, none⟩) 1 1) (hl : cs.size = size) (h1 : ∀ u ∈ cs.toList, u.oneCell' = true)
 (HO : LRow W base e size v n xs) (hB : Below base w0 W) (hbase : base ≤ w0.heap.size) (hlen : (n + 1) * bytes ≤ 140737488355328)
 (h : ∀ A1 c1 w1, LRow w1 base e size (.slice A1 (n + 1) c1) (n + 1) (xs ++ cs.toList) → Below base w0 w1 → n + 1 ≤ c1 → (W.alloc (.cells cs e)).grownBy w1 v.ownBlock → wpList Tryz.prog ops Q rest (a.put o.dst (.slice A1 (n + 1) c1)) w1) :
 wpList Tryz.prog ops Q (o :: rest) a (W.alloc (.cells cs e)) := by
 have hsz := hB.size; have hW : base ≤ W.heap.size := Nat.le_trans hbase hsz; have HO2 : LRow (W.alloc (.cells cs e)) base e size v n xs := LRow.step HO ((BR _ _).alloc (NR _) _); refine wpList_append_loose (W.alloc (.cells cs e)) base hgd s x t e z size bytes ho ht hinfo hz hs0 hb0 v n xs cs.toList (some ⟨W.heap.size, 0, none⟩) 1 1 hs hx (by simp [hl]) h1 HO2 (.inr ⟨_, rfl, World.news_of_block (heap_alloc_new W (.cells cs e))⟩) (by simp; omega) hlen ?_; intro v1 w1 hrow hg hat
 obtain ⟨A1, c1, rfl, hc1⟩ := LRow.slice hrow; exact h A1 c1 w1 hrow ((hB.alloc hW _).grown hg (by simp; omega) (fun k hk => (LRow.lt HO2 k hk).2.1)) hc1 hg
end
def RowAt (W : World) (v : Value) (n : Nat) (xs : List Value) : Prop := ∃ A c, v = .slice A n c ∧ n ≤ c ∧ (n : Int) ≤ 9223372036854775807 ∧ ∀ j u, xs[j]? = some u → ∃ ad, A = some ad ∧ W.cell? (ad.add j) = some u
theorem RowAt.step {w w1 : World} {v : Value} {n : Nat} {xs : List Value} (h : RowAt w v n xs) (hb : Below w.heap.size w w1) : RowAt w1 v n xs := by
 obtain ⟨A, c, rfl, h1, h2, h3⟩ := h; exact ⟨A, c, rfl, h1, h2, fun j u hj => by
  obtain ⟨ad, h4, h5⟩ := h3 j u hj; exact ⟨ad, h4, cell_keep hb (NR _) h5⟩⟩
theorem LRow.rowAt {w : World} {B e size n : Nat} {v : Value} {xs : List Value} (h : LRow w B e size v n xs) (hn : (n : Int) ≤ 9223372036854775807) : RowAt w v n xs := by
 obtain ⟨A, c, rfl, hc⟩ := LRow.slice h; refine ⟨A, c, rfl, hc, hn, fun j u hj => ?_⟩; rcases id h.2 with ⟨h1, h2⟩ | ⟨g, cap, cur, h3, _⟩
 · have := h.1; rw [h2, Nat.zero_mul] at this; rw [List.eq_nil_of_length_eq_zero this] at hj; simp at hj
 · injection h3 with h3 _ _
   subst h3; exact ⟨_, rfl, LRow.cell h j u hj⟩
def IntsAt (W : World) (v : Value) (l : List Int) : Prop := RowAt W v l.length (l.map (O Y))
theorem IntsAt.step {w w1 : World} {v : Value} {l : List Int} (h : IntsAt w v l) (hb : Below w.heap.size w w1) : IntsAt w1 v l := RowAt.step h hb
theorem IntsAt.at {w : World} {A : Option Addr} {n c : Nat} {l : List Int} (h : IntsAt w (.slice A n c) l) (j : Nat) (x : Int) (hj : l[j]? = some x) : ∃ ad, A = some ad ∧ w.cell? (ad.add j) = some (O Y x) := by
 obtain ⟨A', c', e, _, _, h3⟩ := h; injection e with e1 e2 e3
 subst e1; exact h3 j _ (by rw [List.getElem?_map, hj]; rfl)
structure I3 where
 o : Int
 a : Int
 b : Int
def I3.enc (x : I3) : List Value := [O Y x.o, O Y x.a, O Y x.b]
def CodeAt (W : World) (v : Value) (l : List I3) : Prop := RowAt W v l.length (l.flatMap I3.enc)
theorem CodeAt.step {w w1 : World} {v : Value} {l : List I3} (h : CodeAt w v l) (hb : Below w.heap.size w w1) : CodeAt w1 v l := RowAt.step h hb
theorem enc_get (l : List I3) : ∀ (k : Nat) (y : I3), l[k]? = some y → (l.flatMap I3.enc)[k * 3]? = some (O Y y.o) ∧ (l.flatMap I3.enc)[k * 3 + 1]? = some (O Y y.a) ∧ (l.flatMap I3.enc)[k * 3 + 2]? = some (O Y y.b) := by
 induction l with
 | nil => intro k y h; simp at h
 | cons z l ih =>
  intro k y h; rw [List.flatMap_cons]; have e : (I3.enc z).length = 3 := rfl; cases k with
  | zero =>
   rw [List.getElem?_cons_zero] at h; injection h with h
   subst h; exact ⟨rfl, rfl, rfl⟩
  | succ k =>
   rw [List.getElem?_cons_succ] at h; have := ih k y h; refine ⟨?_, ?_, ?_⟩
   · rw [List.getElem?_append_right (by omega), e, show (k + 1) * 3 - 3 = k * 3 by omega]; exact this.1
   · rw [List.getElem?_append_right (by omega), e, show (k + 1) * 3 + 1 - 3 = k * 3 + 1 by omega]; exact this.2.1
   · rw [List.getElem?_append_right (by omega), e, show (k + 1) * 3 + 2 - 3 = k * 3 + 2 by omega]; exact this.2.2
theorem add_next (ad : Addr) (j i : Nat) : ad.add (j + (i + 1)) = ⟨(ad.add j).block, (ad.add j).off + (i + 1), none⟩ := by
 unfold Addr.add; rw [if_neg (by omega)]; split
 · rename_i h; rw [h, Nat.zero_add]
 · simp only [Addr.mk.injEq, true_and, and_true]; omega
theorem CodeAt.at {w : World} {A : Option Addr} {n c : Nat} {l : List I3} (h : CodeAt w (.slice A n c) l) (j : Nat) (x : I3) (hj : l[j]? = some x) : ∃ ad, A = some ad ∧ w.cell? (ad.add (j * 3)) = some (O Y x.o) ∧ w.cell? ⟨(ad.add (j * 3)).block, (ad.add (j * 3)).off + 1, none⟩ = some (O Y x.a) ∧ w.cell? ⟨(ad.add (j * 3)).block, (ad.add (j * 3)).off + 2, none⟩ = some (O Y x.b) := by
 obtain ⟨A', c', e, _, _, h3⟩ := h; injection e with e1 e2 e3
 subst e1; obtain ⟨p0, p1, p2⟩ := enc_get l j x hj; obtain ⟨ad, rfl, q0⟩ := h3 _ _ p0; obtain ⟨ad1, e1, q1⟩ := h3 _ _ p1; obtain ⟨ad2, e2, q2⟩ := h3 _ _ p2; injection e1 with e1
 injection e2 with e2
 subst e1 e2; rw [add_next] at q1 q2; exact ⟨_, rfl, q0, q1, q2⟩
end
def zig (n : Int) : Nat := if 0 ≤ n then (2 * n).toNat else (-2 * n - 1).toNat
theorem turn_any (n : Int) (w : World) (h : -9223372036854775808 ≤ n ∧ n < 9223372036854775808) : Calls Tryz.prog 90 #[O Y n] w fun e w' => e = .returned (.int .u64 (zig n)) ∧ w' = w := by
 go_enter Tryz.func90, Tryz.ntmps90; by_cases h0 : 0 ≤ n
 · have e1 : bits .xor .u64 (n * 2) (n / 9223372036854775808) = (zig n : Int) := by
    obtain ⟨m, rfl⟩ := Int.eq_ofNat_of_zero_le h0; have e0 : ((m : Int) / 9223372036854775808) = ((0 : Nat) : Int) := by omega
    have e2 : (m : Int) * 2 = ((m * 2 : Nat) : Int) := by omega
    rw [e0, e2, u64_xor_nat _ _ (by omega) (by omega), Nat.xor_zero]; unfold zig; rw [if_pos h0]; omega
   go_wp2_with fail; go_ret; exact ⟨by rw [← e1]; rfl, rfl⟩
 · have e1 : bits .xor .u64 (IntKind.u64.wrap (IntKind.u64.wrap n * 2)) (IntKind.u64.wrap (n / 9223372036854775808)) = (zig n : Int) := by
    obtain ⟨m, hm⟩ : ∃ m : Nat, n = -(m : Int) - 1 := ⟨(-n - 1).toNat, by omega⟩
    subst hm; have e0 : IntKind.u64.wrap ((-(m : Int) - 1) / 9223372036854775808) = ((18446744073709551615 : Nat) : Int) := by rw [IntKind.wrap_u64]; omega
    have e2 : IntKind.u64.wrap (IntKind.u64.wrap (-(m : Int) - 1) * 2) = ((18446744073709551614 - 2 * m : Nat) : Int) := by rw [IntKind.wrap_u64, IntKind.wrap_u64]; omega
    have e3 : (18446744073709551614 - 2 * m) ^^^ 18446744073709551615 = 2 * m + 1 := by
     have hX : 18446744073709551614 - 2 * m < 18446744073709551616 := by omega
     have h1 : (BitVec.ofNat 64 (18446744073709551614 - 2 * m) ^^^ BitVec.allOnes 64).toNat = (18446744073709551614 - 2 * m) ^^^ 18446744073709551615 := by rw [BitVec.toNat_xor, BitVec.toNat_ofNat, BitVec.toNat_allOnes, Nat.mod_eq_of_lt hX]
     rw [← h1, BitVec.xor_allOnes, BitVec.toNat_not, BitVec.toNat_ofNat, Nat.mod_eq_of_lt hX]; omega
    rw [e0, e2, u64_xor_nat _ _ (by omega) (by omega), e3]; unfold zig; rw [if_neg h0]; omega
   go_wp2_with fail; go_ret; exact ⟨by rw [← e1]; rfl, rfl⟩
theorem zig_lt (n : Int) (h : -9223372036854775808 ≤ n ∧ n < 9223372036854775808) : zig n < 18446744073709551616 := by unfold zig; split <;> omega
def putU (u : Nat) : List Int := if h : u < 128 then [(u : Int)] else ((u % 128 + 128 : Nat) : Int) :: putU (u / 128)
termination_by u
decreasing_by omega
def putS (n : Int) : ByteArray := strOfNums (putU (zig n))
theorem info5 : (Tryz.prog.info? 5).map (fun i => (i.zero, i.size, i.bytes)) = some (some (.int .u8 0), 1, 1) := by kernel_rfl
theorem putU_len (u : Nat) (k : Nat) (h : u < 128 ^ (k + 1)) : (putU u).length ≤ k + 1 := by
 induction k generalizing u with
 | zero => rw [putU, dif_pos (by omega)]; simp
 | succ k ih =>
  rw [putU]; split
  · simp
  · rw [List.length_cons]; have := ih (u / 128) (by rw [Nat.div_lt_iff_lt_mul (by decide)]; rw [Nat.pow_succ] at h; omega); omega
theorem conv_str {w : World} {B n c : Nat} {A : Option Addr} {ys : List Int} (h : LRow w B 5 1 (.slice A n c) n (ys.map (Value.int .u8))) : (convert 152 9 (.slice A n c)).run Tryz.prog w = .ok (.string (strOfNums ys)) w := by
 have hl : ys.length = n := by have := h.1; simpa using this
 rcases id h.2 with ⟨h1, h2⟩ | ⟨g, cap, cur, h1, _⟩
 · injection h1 with h1 _ _
   subst h1; obtain rfl : ys = [] := List.eq_nil_of_length_eq_zero (by omega); exact run_convert_bytes_nil (P := Tryz.prog) w 152 5 Tryz.underlying152 Tryz.underlying5 n c 9 Tryz.underlying9
 · injection h1 with h1 _ _
   subst h1; refine run_convert_bytes_arg (P := Tryz.prog) w 152 5 Tryz.underlying152 Tryz.underlying5 g 0 n c ys hl (fun i hi => ?_) 9 Tryz.underlying9; have := LRow.cell h i (.int .u8 (ys.getD i 0)) (by rw [List.getElem?_map, GD, GE (by omega)]; rfl); rw [add_plain] at this; rw [Nat.zero_add]; exact this
def PutRel (w : World) (full : List Int) (vb vu : Value) (wr : World) : Prop := ∃ (xs : List Int) (u : Nat) (A : Option Addr) (c : Nat), vu = .int .u64 u ∧ u < 18446744073709551616 ∧ vb = .slice A xs.length c ∧ LRow wr w.heap.size 5 1 (.slice A xs.length c) xs.length (xs.map (Value.int .u8)) ∧ Below w.heap.size w wr ∧ xs ++ putU u = full
theorem put_any (n : Int) (w : World) (h : -9223372036854775808 ≤ n ∧ n < 9223372036854775808) : Calls Tryz.prog 54 #[O Y n] w fun e w' => e = .returned (.string (putS n)) ∧ Below w.heap.size w w' := by
 have hz := zig_lt n h; have hlen := ZZ (putU_len (zig n) 10 (by omega)); have ht := ZZ (turn_any n w h); unfold putS; generalize zig n = z at *; generalize hfull : putU z = full at *; replace hfull := ZZ hfull; clear h; go_enter Tryz.func54, Tryz.ntmps54; go_wp2_with fail; refine ht.out.mono ?_; rintro e w0 ⟨rfl, rfl⟩; go_wp2_with fail; go_loopw [3, 4] (fun vb vu wr => PutRel w0 full vb vu wr) (fun _ vu _ => (intOf vu).toNat); case atStart => exact ⟨[], z, none, 0, rfl, hz, rfl, LRow.nil _ _ _ _, BR _ _, hfull.out⟩
 case round =>
  obtain ⟨xs, u, A, c, rfl, hu, rfl, hrow, hb, hf⟩ := hrel; have hxl : xs.length ≤ 11 := by have := hlen.out; rw [← hf, List.length_append] at this; omega
  have hrow' := ZZ hrow; have hb' := ZZ hb; rw [putU] at hf; clear hz hlen hfull hrow hb; by_cases hc : u < 128
  · have d1 : decide ((128 : Int) ≤ (u : Int)) = false := decide_eq_false (by omega); rw [dif_pos hc] at hf; replace hf := ZZ hf; go_wp2_with (first | (at_builtin; refine wpList_append_one w0 wr w0.heap.size rfl (.tmp 18) (.tmp 21) 152 5 _ 1 1 rfl Tryz.underlying152 info5 rfl (by decide) (by decide) (.slice A xs.length c) xs.length (xs.map (Value.int .u8)) _ rfl rfl rfl (by simp [Value.oneCell']) hrow'.out hb'.out (NR _) (by omega) ?_; rintro A1 c1 w1 hrow1 hb1 - -) | fail)
    have hcv := ZZ (conv_str (ys := xs ++ [(u : Int)]) (by simpa using hrow1)); clear hrow1; rw [hcv.out, hf.out]; replace hb1 := ZZ hb1; go_wp2_with fail; go_ret; exact ⟨rfl, hb1.out⟩
  · have d1 : decide ((128 : Int) ≤ (u : Int)) = true := decide_eq_true (by omega); rw [dif_neg hc] at hf; replace hf := ZZ hf; go_wp2_with (first | (at_builtin; refine wpList_append_one w0 wr w0.heap.size rfl (.tmp 11) (.tmp 16) 152 5 _ 1 1 rfl Tryz.underlying152 info5 rfl (by decide) (by decide) (.slice A xs.length c) xs.length (xs.map (Value.int .u8)) _ rfl rfl rfl (by simp [Value.oneCell']) hrow'.out hb'.out (NR _) (by omega) ?_; rintro A1 c1 w1 hrow1 hb1 - -) | fail)
    refine ⟨⟨xs ++ [((u % 128 + 128 : Nat) : Int)], u / 128, A1, c1, rfl, by omega, by rw [List.length_append]; rfl, ?_, hb1, ?_⟩, ?_⟩
    · rw [List.length_append, List.map_append]; exact hrow1
    · rw [List.append_assoc]; exact hf.out
    · have : ((u : Int) / 128) < u := by omega
      show ((u : Int) / 128).toNat < (u : Int).toNat
      omega
def catS (s : ByteArray) (l : List Int) : ByteArray := l.foldl (fun s n => s ++ putS n) s
theorem catS_snoc (s : ByteArray) (l : List Int) (n : Int) : catS s (l ++ [n]) = catS s l ++ putS n := by unfold catS; rw [List.foldl_append]; rfl
theorem take_next {α : Type} (l : List α) (i : Nat) (y : α) (h : l[i]? = some y) : l.take (i + 1) = l.take i ++ [y] := by
 rw [List.take_add_one, h]; rfl
theorem putS_size (n : Int) (h : -9223372036854775808 ≤ n ∧ n < 9223372036854775808) : (putS n).size ≤ 11 := by
 unfold putS; rw [strOfNums_size]; have := zig_lt n h; exact putU_len _ 10 (by omega)
theorem catS_size (l : List Int) (hl : ∀ n ∈ l, -9223372036854775808 ≤ n ∧ n < 9223372036854775808) : ∀ s : ByteArray, (catS s l).size ≤ s.size + 11 * l.length := by
 induction l with
 | nil => intro s; exact NR _
 | cons n l ih =>
  intro s; have h1 := ih (fun m hm => hl m (List.mem_cons_of_mem _ hm)) (s ++ putS n); have h2 := putS_size n (hl n (List.mem_cons_self ..)); rw [ByteArray.size_append] at h1; rw [List.length_cons]; show (catS (s ++ putS n) l).size ≤ _; omega
def Small (l : List Int) : Prop := ∀ n ∈ l, -9223372036854775808 ≤ n ∧ n < 9223372036854775808
def CatRel (w : World) (s0 : ByteArray) (l : List Int) (vs vi : Value) (wr : World) : Prop := ∃ k : Nat, k ≤ l.length ∧ vi = O Y k ∧ vs = .string (catS s0 (l.take k)) ∧ Below w.heap.size w wr
theorem list_any (v : Value) (l : List Int) (w : World) (h : IntsAt w v l) (hs : Small l) (hl : l.length ≤ 10000) : Calls Tryz.prog 29 #[v] w fun e w' => e = .returned (.string (catS (putS l.length) l)) ∧ Below w.heap.size w w' := by
 have hpl := fun w => ZZ (put_any (l.length : Int) w (by omega)); replace hpl := ZZ hpl; have H0 := ZZ h; obtain ⟨A, c, rfl, hc, _⟩ := id h; replace hs := ZZ hs; clear h; go_enter Tryz.func29, Tryz.ntmps29; go_wp2_with fail; refine (hpl.out _).out.mono ?_; rintro e w1 ⟨rfl, hb⟩; replace hb := ZZ hb; have hs0 := ZZ (putS_size (l.length : Int) (by omega)); generalize hs1 : putS (l.length : Int) = s0 at *; replace hs1 := ZZ hs1; go_wp2_with fail; go_loopw [3, 11] (fun vs vi wr => CatRel w s0 l vs vi wr) (fun _ vi _ => l.length - (intOf vi).toNat); case atStart => exact ⟨0, Nat.zero_le _, rfl, rfl, hb.out⟩
 case round =>
  obtain ⟨k, hk, rfl, rfl, hb1⟩ := hrel; clear hb; replace hb1 := ZZ hb1; by_cases hkn : k < l.length
  · have hkn' : (k : Int) < (l.length : Int) := Int.ofNat_lt.2 hkn; have tk : decide (l.length ≤ k) = false := decide_eq_false (Nat.not_le.2 hkn); have hk5 : k < 10000 := by omega
    obtain ⟨y, hy⟩ : ∃ y, l[k]? = some y := ⟨l[k], GE hkn⟩
    obtain ⟨ad, rfl, hcell⟩ := IntsAt.at (IntsAt.step H0.out hb1.out) k y hy; have hp := ZZ (put_any y wr (hs.out y (LM hy))); have hn := ZZ ((catS_snoc s0 (l.take k) y).symm.trans (congrArg (catS s0) (take_next l k y hy).symm)); have hsz : ¬ 9223372036854775807 < (catS s0 (l.take k)).size + (putS y).size := by
     have h1 := catS_size (l.take k) (fun m hm => hs.out m (List.mem_of_mem_take hm)) s0; have h2 := putS_size y (hs.out y (LM hy)); have h3 := hs0.out; rw [List.length_take] at h1; omega
    have hkn3 := ZZ hkn; clear hy hkn hk; generalize catS s0 (l.take k) = s1 at *; go_wp2_with fail; refine hp.out.mono ?_; rintro e w2 ⟨rfl, hb2⟩; have hb3 := ZZ (hb1.out.trans (hb2.mono hb1.out.size)); clear hb2 hp hcell; go_wp2_with fail; exact ⟨⟨k + 1, hkn3.out, by go_num, by rw [hn.out], hb3.out⟩, by have := hkn3.out; simp [intOf]; omega⟩
  · have e0 : ¬ ((k : Int) < (l.length : Int)) := fun h => hkn (Int.ofNat_lt.1 h); have hke : k = l.length := by omega
    rw [hke, List.take_length]; clear hkn hk hke; go_wp2_with fail; go_ret; exact ⟨by rw [hs1.out]; rfl, hb1.out⟩
theorem puts_any (v : Value) (l : List Int) (w : World) (h : IntsAt w v l) (hs : Small l) (hl : l.length ≤ 10000) : Calls Tryz.prog 28 #[v] w fun e w' => e = .returned (.string (catS BE l)) ∧ Below w.heap.size w w' := by
 have H0 := ZZ h; obtain ⟨A, c, rfl, hc, _⟩ := id h; replace hs := ZZ hs; clear h; go_enter Tryz.func28, Tryz.ntmps28; go_wp2_with fail; have hb := ZZ (BR w.heap.size w); have hs0 := ZZ (show BE.size ≤ 11 by decide); generalize hs1 : BE = s0 at *; replace hs1 := ZZ hs1; go_loopw [3, 8] (fun vs vi wr => CatRel w s0 l vs vi wr) (fun _ vi _ => l.length - (intOf vi).toNat); case atStart => exact ⟨0, Nat.zero_le _, rfl, by rw [← hs1.out]; rfl, hb.out⟩
 case round =>
  obtain ⟨k, hk, rfl, rfl, hb1⟩ := hrel; clear hb; replace hb1 := ZZ hb1; by_cases hkn : k < l.length
  · have hkn' : (k : Int) < (l.length : Int) := Int.ofNat_lt.2 hkn; have tk : decide (l.length ≤ k) = false := decide_eq_false (Nat.not_le.2 hkn); have hk5 : k < 10000 := by omega
    obtain ⟨y, hy⟩ : ∃ y, l[k]? = some y := ⟨l[k], GE hkn⟩
    obtain ⟨ad, rfl, hcell⟩ := IntsAt.at (IntsAt.step H0.out hb1.out) k y hy; have hp := ZZ (put_any y wr (hs.out y (LM hy))); have hn := ZZ ((catS_snoc s0 (l.take k) y).symm.trans (congrArg (catS s0) (take_next l k y hy).symm)); have hsz : ¬ 9223372036854775807 < (catS s0 (l.take k)).size + (putS y).size := by
     have h1 := catS_size (l.take k) (fun m hm => hs.out m (List.mem_of_mem_take hm)) s0; have h2 := putS_size y (hs.out y (LM hy)); have h3 := hs0.out; rw [List.length_take] at h1; omega
    have hkn3 := ZZ hkn; clear hy hkn hk; generalize catS s0 (l.take k) = s1 at *; go_wp2_with fail; refine hp.out.mono ?_; rintro e w2 ⟨rfl, hb2⟩; have hb3 := ZZ (hb1.out.trans (hb2.mono hb1.out.size)); clear hb2 hp hcell; go_wp2_with fail; exact ⟨⟨k + 1, hkn3.out, by go_num, by rw [hn.out], hb3.out⟩, by have := hkn3.out; simp [intOf]; omega⟩
  · have e0 : ¬ ((k : Int) < (l.length : Int)) := fun h => hkn (Int.ofNat_lt.1 h); have hke : k = l.length := by omega
    rw [hke, List.take_length]; clear hkn hk hke; go_wp2_with fail; go_ret; exact ⟨by rw [hs1.out]; rfl, hb1.out⟩
theorem rightI_bd {o a b : Int} (h : rightI o a b = true) : 1 ≤ o ∧ o ≤ 25 := by
 unfold rightI kindOf at h; by_cases h1 : o < 1 ∨ 25 < o
 · rw [if_pos h1] at h; simp at h
 · omega
def encP (o a b : Int) (k : Nat) : ByteArray := match k with
 | 0 => strOfNums [o]
 | 1 => if 0 < (kindOf o).args then strOfNums [o] ++ putS a else strOfNums [o]
 | _ => if 1 < (kindOf o).args then (if 0 < (kindOf o).args then strOfNums [o] ++ putS a else strOfNums [o]) ++ putS b else (if 0 < (kindOf o).args then strOfNums [o] ++ putS a else strOfNums [o])
def encI (o a b : Int) : ByteArray := if rightI o a b = true then encP o a b 2 else BE
def Sm (n : Int) : Prop := -9223372036854775808 ≤ n ∧ n < 9223372036854775808
theorem own_one {W : World} {B : Nat} (hB : B ≤ W.heap.size) (u : Int) : LRow (W.alloc (.cells #[.int .u8 u] 5)) B 5 1 (.slice (some ⟨W.heap.size, 0, none⟩) 1 1) 1 ([u].map (Value.int .u8)) :=
 ⟨by simp, .inr ⟨_, 1, _, rfl, hB, heap_alloc_new W _, by simp, by decide, by simp, by simp⟩⟩
def EncRel (w : World) (o a b : Int) (vs vk : Value) (wr : World) : Prop := ∃ k : Nat, k ≤ 2 ∧ vk = O Y k ∧ vs = .string (encP o a b k) ∧ Below w.heap.size w wr ∧ wr.cell? ⟨w.heap.size, 0, none⟩ = some (O Y o)
theorem encP_size (o a b : Int) (ha : Sm a) (hb : Sm b) (k : Nat) : (encP o a b k).size ≤ 23 := by
 have h1 := putS_size a ha; have h2 := putS_size b hb; have h3 : (strOfNums [o]).size = 1 := strOfNums_size _; unfold encP; split
 · omega
 · split <;> (try rw [ByteArray.size_append]) <;> omega
 · split <;> split <;> (repeat rw [ByteArray.size_append]) <;> omega
theorem idx2 (a b : Int) (k : Nat) (w : World) (hk : k < 2) : (Instr.index 205 (.agg #[O Y a, O Y b]) (O Y (k : Int))).run Tryz.prog w = .ok (O Y (if k = 0 then a else b)) w := by
 obtain ⟨i0, hi, hz⟩ := Option.map_eq_some_iff.1 (show (Tryz.prog.info? 3).map (·.size) = some 1 by kernel_rfl); rcases (by omega : k = 0 ∨ k = 1) with rfl | rfl <;> simp [Instr.index, run_underlying Tryz.underlying205, asIntOf, asAgg, part, sizeOf, typeInfo, hi, hz, isAgg, run_underlying Tryz.underlying3]
theorem encode_any (o a b : Int) (w : World) (ha : Sm a) (hb : Sm b) : Calls Tryz.prog 61 #[.agg #[O Y o, O Y a, O Y b]] w fun e w' => e = .returned (.string (encI o a b)) ∧ Below w.heap.size w w' := by
 have hsa := ZZ ha; have hsb := ZZ hb; clear ha hb; have hr := fun w => ZZ (right_any o a b w); replace hr := ZZ hr; go_enter Tryz.func61, Tryz.ntmps61; go_wp2_with fail; refine (hr.out _).out.mono ?_; rintro e w1 ⟨rfl, hb0⟩; have x0 : w1.cell? ⟨w.heap.size, 0, none⟩ = some (O Y o) := cell_keep hb0 (NR _) ((blk_cell (heap_alloc_last w (.cells #[O Y o, O Y a, O Y b] 127)) 0).trans rfl); have x1 : w1.cell? ⟨w.heap.size, 1, none⟩ = some (O Y a) := cell_keep hb0 (NR _) ((blk_cell (heap_alloc_last w (.cells #[O Y o, O Y a, O Y b] 127)) 1).trans rfl); have x2 : w1.cell? ⟨w.heap.size, 2, none⟩ = some (O Y b) := cell_keep hb0 (NR _) ((blk_cell (heap_alloc_last w (.cells #[O Y o, O Y a, O Y b] 127)) 2).trans rfl); have hb1 := ZZ (((BR w.heap.size w).alloc (NR _) (.cells #[O Y o, O Y a, O Y b] 127)).trans (hb0.mono (by simp))); clear hb0 hr; cases hri : rightI o a b
 · have he : encI o a b = BE := by unfold encI; rw [hri]; rfl
   replace he := ZZ he; go_wp2_with fail; go_ret; exact ⟨by rw [he.out]; rfl, hb1.out⟩
 · have he : encI o a b = encP o a b 2 := by unfold encI; rw [hri]; rfl
   obtain ⟨ho1, ho2⟩ := rightI_bd hri; replace he := ZZ he; have hcv := ZZ (conv_str (own_one (W := w1) (Nat.zero_le _) o)); go_wp2_with fail; rw [hcv.out]; have hb2 := ZZ (hb1.out.alloc hb1.out.size (.cells #[.int .u8 o] 5)); have xx := fun j u (hu : w1.cell? ⟨w.heap.size, j, none⟩ = some u) => cell_keep ((BR w1.heap.size w1).alloc (NR _) (.cells #[.int .u8 o] 5)) (NR _) hu; replace x0 := xx _ _ x0; replace x1 := xx _ _ x1; replace x2 := xx _ _ x2; clear xx hcv hb1 ho1 ho2; generalize w1.alloc (.cells #[.int .u8 o] 5) = w2 at *; go_wp2_with fail; go_loopw [3, 4, 5, 19] (fun vs _ _ vk wr => EncRel w o a b vs vk wr) (fun _ _ _ vk _ => 2 - (intOf vk).toNat); case atStart => exact ⟨0, by omega, rfl, rfl, hb2.out, x0⟩
   case round =>
    obtain ⟨k, hk, rfl, rfl, hb1, x0⟩ := hrel; replace hb1 := ZZ hb1; clear x1 x2 hb2; rcases (by omega : k = 0 ∨ k = 1 ∨ k = 2) with rfl | rfl | rfl
    · clear hk; have hix : (Instr.index 205 (.agg #[O Y a, O Y b]) (O Y (0 : Int))).run Tryz.prog wr = .ok (O Y a) wr := idx2 a b 0 wr (by omega); by_cases ha0 : 0 < (kindOf o).args
      · have d0 : decide ((0 : Int) < (kindOf o).args) = true := decide_eq_true ha0; have hsz : ¬ 9223372036854775807 < (encP o a b 0).size + (putS a).size := by
         have h1 := encP_size o a b hsa.out hsb.out 0; have h2 := putS_size a hsa.out; omega
        have hn : encP o a b 0 ++ putS a = encP o a b (0 + 1) := by
         simp only [encP]; rw [if_pos ha0]
        replace hn := ZZ hn; replace ha0 := ZZ ha0; have hp := fun w => ZZ (put_any a w hsa.out); replace hp := ZZ hp; generalize encP o a b 0 = s1 at *; go_wp2_with fail; refine (args_any o _).mono ?_; rintro e w2 ⟨rfl, hb2⟩; have x2 := cell_keep hb2 (NR _) x0; have hb3 := ZZ (hb1.out.trans (hb2.mono hb1.out.size)); clear hb2 x0; go_wp2_with fail; refine (hp.out _).out.mono ?_; rintro e w3 ⟨rfl, hb4⟩; have x3 := cell_keep hb4 (NR _) x2; have hb5 := ZZ (hb3.out.trans (hb4.mono hb3.out.size)); clear hb4 x2; go_wp2_with fail; exact ⟨⟨0 + 1, by omega, rfl, by rw [← hn.out], hb5.out, x3⟩, by decide⟩
      · have d0 : decide ((0 : Int) < (kindOf o).args) = false := decide_eq_false ha0; have hn : encP o a b 0 = encP o a b (0 + 1) := by
         simp only [encP]; rw [if_neg ha0]
        rw [hn]; clear hn ha0; go_wp2_with fail; refine (args_any o _).mono ?_; rintro e w2 ⟨rfl, hb2⟩; have x2 := cell_keep hb2 (NR _) x0; have hb3 := ZZ (hb1.out.trans (hb2.mono hb1.out.size)); clear hb2 x0; go_wp2_with fail; exact ⟨⟨0 + 1, by omega, rfl, rfl, hb3.out, x2⟩, by decide⟩
    · clear hk; have hix : (Instr.index 205 (.agg #[O Y a, O Y b]) (O Y (1 : Int))).run Tryz.prog wr = .ok (O Y b) wr := idx2 a b 1 wr (by omega); by_cases ha1 : 1 < (kindOf o).args
      · have d1 : decide ((1 : Int) < (kindOf o).args) = true := decide_eq_true ha1; have hsz : ¬ 9223372036854775807 < (encP o a b 1).size + (putS b).size := by
         have h1 := encP_size o a b hsa.out hsb.out 1; have h2 := putS_size b hsb.out; omega
        have hn : encP o a b 1 ++ putS b = encP o a b (1 + 1) := by
         simp only [encP]; rw [if_pos ha1]
        replace hn := ZZ hn; replace ha1 := ZZ ha1; have hp := fun w => ZZ (put_any b w hsb.out); replace hp := ZZ hp; generalize encP o a b 1 = s1 at *; go_wp2_with fail; refine (args_any o _).mono ?_; rintro e w2 ⟨rfl, hb2⟩; have x2 := cell_keep hb2 (NR _) x0; have hb3 := ZZ (hb1.out.trans (hb2.mono hb1.out.size)); clear hb2 x0; go_wp2_with fail; refine (hp.out _).out.mono ?_; rintro e w3 ⟨rfl, hb4⟩; have x3 := cell_keep hb4 (NR _) x2; have hb5 := ZZ (hb3.out.trans (hb4.mono hb3.out.size)); clear hb4 x2; go_wp2_with fail; exact ⟨⟨1 + 1, by omega, rfl, by rw [← hn.out], hb5.out, x3⟩, by decide⟩
      · have d1 : decide ((1 : Int) < (kindOf o).args) = false := decide_eq_false ha1; have hn : encP o a b 1 = encP o a b (1 + 1) := by
         simp only [encP]; rw [if_neg ha1]
        rw [hn]; clear hn ha1; go_wp2_with fail; refine (args_any o _).mono ?_; rintro e w2 ⟨rfl, hb2⟩; have x2 := cell_keep hb2 (NR _) x0; have hb3 := ZZ (hb1.out.trans (hb2.mono hb1.out.size)); clear hb2 x0; go_wp2_with fail; exact ⟨⟨1 + 1, by omega, rfl, rfl, hb3.out, x2⟩, by decide⟩
    · clear hk; rw [← he.out]; go_wp2_with fail; go_ret; exact ⟨rfl, hb1.out⟩
def catI (s : ByteArray) (l : List I3) : ByteArray := l.foldl (fun s x => s ++ encI x.o x.a x.b) s
theorem catI_snoc (s : ByteArray) (l : List I3) (x : I3) : catI s (l ++ [x]) = catI s l ++ encI x.o x.a x.b := by unfold catI; rw [List.foldl_append]; rfl
def SmI (x : I3) : Prop := Sm x.a ∧ Sm x.b
theorem encI_size (x : I3) (h : SmI x) : (encI x.o x.a x.b).size ≤ 23 := by
 unfold encI; split
 · exact encP_size _ _ _ h.1 h.2 2
 · decide
theorem catI_size (l : List I3) (hl : ∀ x ∈ l, SmI x) : ∀ s : ByteArray, (catI s l).size ≤ s.size + 23 * l.length := by
 induction l with
 | nil => intro s; exact NR _
 | cons x l ih =>
  intro s; have h1 := ih (fun m hm => hl m (List.mem_cons_of_mem _ hm)) (s ++ encI x.o x.a x.b); have h2 := encI_size x (hl x (List.mem_cons_self ..)); rw [ByteArray.size_append] at h1; rw [List.length_cons]; show (catI (s ++ encI x.o x.a x.b) l).size ≤ _; omega
def okI (x : I3) : Bool := rightI x.o x.a x.b
theorem isEmpty_of (s : ByteArray) : s.toList.isEmpty = decide (s.size = 0) := by
 rw [← decide_eq_emptyBytes]; by_cases h : s.size = 0
 · have e : s = BE := by
    cases s with
    | mk d =>
     have h2 : d = #[] := Array.eq_empty_of_size_eq_zero h; rw [h2]; rfl
   simp [e]
 · have e : ¬ s = BE := fun e => h (by rw [e]; rfl); simp [e, h]
theorem encI_empty (x : I3) : (encI x.o x.a x.b).toList.isEmpty = !okI x := by
 rw [isEmpty_of]; unfold encI okI; cases h : rightI x.o x.a x.b
 · rfl
 · have h1 : 0 < (encP x.o x.a x.b 2).size := by
    have h3 : (strOfNums [x.o]).size = 1 := strOfNums_size _; unfold encP; split
    · omega
    · split <;> (try rw [ByteArray.size_append]) <;> omega
    · split <;> split <;> (repeat rw [ByteArray.size_append]) <;> omega
   rw [if_pos rfl]; exact decide_eq_false (by omega)
def codeB (l : List I3) : ByteArray := if l.length ≤ 200 ∧ l.all okI = true then catI BE l else BE
def CodeRel (w : World) (l : List I3) (vs vi : Value) (wr : World) : Prop := ∃ k : Nat, k ≤ l.length ∧ vi = O Y k ∧ vs = .string (catI BE (l.take k)) ∧ (∀ x ∈ l.take k, okI x = true) ∧ Below w.heap.size w wr
theorem code_any (v : Value) (l : List I3) (w : World) (h : CodeAt w v l) (hs : ∀ x ∈ l, SmI x) : Calls Tryz.prog 30 #[v] w fun e w' => e = .returned (.string (codeB l)) ∧ Below w.heap.size w w' := by
 have H0 := ZZ h; obtain ⟨A, c, rfl, hc, hn63, _⟩ := id h; replace hs := ZZ hs; clear h; by_cases hl : 200 < l.length
 · have d0 : decide ((200 : Int) < (l.length : Int)) = true := decide_eq_true (by omega); have hr : codeB l = BE := if_neg (by omega); replace hr := ZZ hr; clear hl; go_enter Tryz.func30, Tryz.ntmps30; go_wp2_with fail; go_ret; exact ⟨by rw [hr.out]; rfl, BR _ _⟩
 · have d0 : decide ((200 : Int) < (l.length : Int)) = false := decide_eq_false (by omega); have hl2 : l.length ≤ 200 := by omega
   clear hl; go_enter Tryz.func30, Tryz.ntmps30; go_wp2_with fail; go_loopw [3, 12] (fun vs vi wr => CodeRel w l vs vi wr) (fun _ vi _ => l.length - (intOf vi).toNat); case atStart => exact ⟨0, Nat.zero_le _, rfl, rfl, by simp, BR _ _⟩
   case round =>
    obtain ⟨k, hk, rfl, rfl, hok, hb1⟩ := hrel; replace hb1 := ZZ hb1; by_cases hkn : k < l.length
    · have hkn' : (k : Int) < (l.length : Int) := Int.ofNat_lt.2 hkn; have tk : decide (l.length ≤ k) = false := decide_eq_false (Nat.not_le.2 hkn); have hk5 : k < 200 := by omega
      obtain ⟨y, hy⟩ : ∃ y, l[k]? = some y := ⟨l[k], GE hkn⟩
      have hym := LM hy; obtain ⟨ad, rfl, y0, y1, y2⟩ := CodeAt.at (CodeAt.step H0.out hb1.out) k y hy; have hp := fun w => ZZ (encode_any y.o y.a y.b w (hs.out y hym).1 (hs.out y hym).2); replace hp := ZZ hp; have hn := ZZ ((catI_snoc BE (l.take k) y).symm.trans (congrArg (catI BE) (take_next l k y hy).symm)); have hsz : ¬ 9223372036854775807 < (catI BE (l.take k)).size + (encI y.o y.a y.b).size := by
       have h1 := catI_size (l.take k) (fun m hm => hs.out m (List.mem_of_mem_take hm)) BE; have h2 := encI_size y (hs.out y hym); have h3 : BE.size = 0 := rfl; rw [List.length_take] at h1; omega
      have hem := encI_empty y; have hkn3 := ZZ hkn; cases hoy : okI y
      · have hr : codeB l = BE := if_neg (fun hh => by
         have := List.all_eq_true.1 hh.2 y hym; rw [hoy] at this; cases this)
        rw [hoy] at hem; replace hr := ZZ hr; clear hy hym hkn hk hok hn hsz; go_wp2_with fail; refine (hp.out _).out.mono ?_; rintro e w2 ⟨rfl, hb2⟩; have hb3 := ZZ (hb1.out.trans (((BR _ _).alloc (NR _) _ |>.trans (hb2.mono (by simp))).mono hb1.out.size)); clear hb2 hp y0 y1 y2; go_wp2_with fail; go_ret; exact ⟨by rw [hr.out]; rfl, hb3.out⟩
      · rw [hoy] at hem; have hok2 := ZZ (show ∀ x ∈ l.take (k + 1), okI x = true from fun x hx => by
         rw [take_next l k y hy] at hx; rcases List.mem_append.1 hx with hx | hx
         · exact hok x hx
         · rw [List.mem_singleton.1 hx]; exact hoy)
        clear hy hym hkn hk hok; generalize catI BE (l.take k) = s1 at *; go_wp2_with fail; refine (hp.out _).out.mono ?_; rintro e w2 ⟨rfl, hb2⟩; have hb3 := ZZ (hb1.out.trans (((BR _ _).alloc (NR _) _ |>.trans (hb2.mono (by simp))).mono hb1.out.size)); clear hb2 hp y0 y1 y2; go_wp2_with fail; exact ⟨⟨k + 1, hkn3.out, by go_num, by rw [hn.out], hok2.out, hb3.out⟩, by have := hkn3.out; simp [intOf]; omega⟩
    · have e0 : ¬ ((k : Int) < (l.length : Int)) := fun h => hkn (Int.ofNat_lt.1 h); have hke : k = l.length := by omega
      rw [hke, List.take_length] at hok ⊢; have hr : codeB l = catI BE l := if_pos ⟨hl2, List.all_eq_true.2 hok⟩; replace hr := ZZ hr; clear hkn hk hke hok; go_wp2_with fail; go_ret; exact ⟨by rw [hr.out]; rfl, hb1.out⟩
end Go.Proofs.YtoopeamoejmjeaaGreat.Tp
namespace Go.Proofs.YtoopeamoejmjeaaGreat.CrcPlain
def dbl (n : Nat) : Nat := (2 * n % 65536) ^^^ (if 32768 ≤ n then 4129 else 0)
def f4 (n : Nat) : Nat := dbl (dbl (dbl (dbl n)))
def f8 (n : Nat) : Nat := f4 (f4 n)
def tab : List Nat := (List.range 16).map fun i => f4 (i * 4096)
theorem xor_zero_eq {x y : Nat} (h : x ^^^ y = 0) : x = y := by
 have : x = x ^^^ y ^^^ y := by rw [Nat.xor_assoc, Nat.xor_self, Nat.xor_zero]
 rw [this, h, Nat.zero_xor]
theorem dbl_lt {n : Nat} : dbl n < 65536 := by
 unfold dbl; apply Nat.xor_lt_two_pow (n := 16)
 · omega
 · split <;> omega
theorem f4_lt {n : Nat} : f4 n < 65536 := dbl_lt
theorem f8_lt {n : Nat} : f8 n < 65536 := f4_lt
theorem ge_iff {n : Nat} (h : n < 65536) : 32768 ≤ n ↔ n.testBit 15 = true := by
 rw [Nat.testBit_eq_decide_div_mod_eq]; simp; omega
theorem two_mul_xor (x y : Nat) : 2 * (x ^^^ y) % 65536 = (2 * x % 65536) ^^^ (2 * y % 65536) := by
 have h : ∀ z, 2 * z = z <<< 1 := fun z => by rw [Nat.shiftLeft_eq]; omega
 rw [h, h, h, Nat.shiftLeft_xor_distrib, show (65536 : Nat) = 2 ^ 16 from rfl, Nat.xor_mod_two_pow]
theorem dbl_xor {x y : Nat} (hx : x < 65536) (hy : y < 65536) : dbl (x ^^^ y) = dbl x ^^^ dbl y := by
 have hxy : x ^^^ y < 65536 := Nat.xor_lt_two_pow (n := 16) hx hy; unfold dbl; rw [two_mul_xor]; have e : (if 32768 ≤ x ^^^ y then 4129 else 0) = (if 32768 ≤ x then 4129 else 0) ^^^ (if 32768 ≤ y then 4129 else 0) := by
  simp only [ge_iff hx, ge_iff hy, ge_iff hxy, Nat.testBit_xor]; cases x.testBit 15 <;> cases y.testBit 15 <;> simp
 rw [e]; ac_rfl
theorem f4_xor {x y : Nat} (hx : x < 65536) (hy : y < 65536) : f4 (x ^^^ y) = f4 x ^^^ f4 y := by
 unfold f4; rw [dbl_xor hx hy, dbl_xor dbl_lt dbl_lt, dbl_xor dbl_lt dbl_lt, dbl_xor dbl_lt dbl_lt]
theorem f8_xor {x y : Nat} (hx : x < 65536) (hy : y < 65536) : f8 (x ^^^ y) = f8 x ^^^ f8 y := by
 unfold f8; rw [f4_xor hx hy, f4_xor f4_lt f4_lt]
theorem dbl_zero {x : Nat} (hx : x < 65536) (h : dbl x = 0) : x = 0 := by
 unfold dbl at h; by_cases hc : 32768 ≤ x
 · rw [if_pos hc] at h; have h2 : ((2 * x % 65536) ^^^ 4129).testBit 0 = false := by rw [h]; simp
   rw [Nat.testBit_xor] at h2; simp at h2
 · rw [if_neg hc] at h; simp at h; omega
theorem f4_zero {x : Nat} (hx : x < 65536) (h : f4 x = 0) : x = 0 :=
 dbl_zero hx (dbl_zero dbl_lt (dbl_zero dbl_lt (dbl_zero dbl_lt h)))
theorem f8_zero {x : Nat} (hx : x < 65536) (h : f8 x = 0) : x = 0 := f4_zero hx (f4_zero f4_lt h)
theorem f8_low {b : Nat} (h : b < 256) : f8 b = 256 * b := by
 have : ∀ b : Fin 256, f8 b.val = 256 * b.val := by decide +kernel
 exact this ⟨b, h⟩
def nib (n : Nat) : Nat := (16 * n % 65536) ^^^ tab.getD (n / 4096) 0
theorem xor_add (k a : Nat) {b : Nat} (h : b < 2 ^ k) : 2 ^ k * a ^^^ b = 2 ^ k * a + b := by
 apply Nat.eq_of_testBit_eq; intro j; rw [Nat.testBit_two_pow_mul_add a h j, Nat.testBit_xor, Nat.testBit_two_pow_mul]; by_cases hj : j < k
 · simp [hj, Nat.not_le.2 hj]
 · have : b.testBit j = false := Nat.testBit_lt_two_pow (Nat.lt_of_lt_of_le h (Nat.pow_le_pow_right (by omega) (by omega))); simp [hj, this, Nat.le_of_not_lt hj]
theorem xor_split {n : Nat} : (4096 * (n / 4096)) ^^^ (n % 4096) = n := by
 have := xor_add 12 (n / 4096) (b := n % 4096) (Nat.mod_lt _ (by omega)); simp only [show (2 : Nat) ^ 12 = 4096 from rfl] at this; omega
theorem f4_low {n : Nat} (h : n < 4096) : f4 n = 16 * n := by
 have h1 : dbl n = 2 * n := by unfold dbl; rw [if_neg (by omega)]; simp; omega
 have h2 : dbl (2 * n) = 4 * n := by unfold dbl; rw [if_neg (by omega)]; simp; omega
 have h3 : dbl (4 * n) = 8 * n := by unfold dbl; rw [if_neg (by omega)]; simp; omega
 have h4 : dbl (8 * n) = 16 * n := by unfold dbl; rw [if_neg (by omega)]; simp; omega
 unfold f4; rw [h1, h2, h3, h4]
theorem nib_eq {n : Nat} (h : n < 65536) : nib n = f4 n := by
 have e : f4 n = f4 (4096 * (n / 4096)) ^^^ f4 (n % 4096) := by
  rw [← f4_xor (by omega) (by omega), xor_split]
 rw [e, f4_low (n := n % 4096) (by omega)]; unfold nib; have e2 : 16 * n % 65536 = 16 * (n % 4096) := by omega
 have ht : ∀ i : Fin 16, tab.getD i.val 0 = f4 (4096 * i.val) := by decide +kernel
 rw [e2, ht ⟨n / 4096, by omega⟩, Nat.xor_comm]
def stp (n c : Nat) : Nat := f8 (n ^^^ (256 * c))
def on (n : Nat) (l : List Nat) : Nat := l.foldl stp n
theorem stp_lt {n c : Nat} : stp n c < 65536 := f8_lt
theorem on_append (n : Nat) (l m : List Nat) : on n (l ++ m) = on (on n l) m := by simp [on]
theorem on_lt {n : Nat} (h : n < 65536) (l : List Nat) : on n l < 65536 := by
 induction l generalizing n with
 | nil => exact h
 | cons c l ih => exact ih stp_lt
theorem lay_lt {n c : Nat} (h : n < 65536) (hc : c < 256) : n ^^^ (256 * c) < 65536 := Nat.xor_lt_two_pow (n := 16) h (by omega)
theorem on_two {n a b : Nat} (hn : n < 65536) (ha : a < 256) (hb : b < 256) : on n [a, b] = f8 (f8 (n ^^^ (256 * a + b))) := by
 show f8 (f8 (n ^^^ 256 * a) ^^^ 256 * b) = _; have e : 256 * a + b = 256 * a ^^^ b := (xor_add 8 a hb).symm; rw [e, ← Nat.xor_assoc, f8_xor (lay_lt hn ha) (by omega), f8_low hb]
theorem on_two_zero {n a b : Nat} (hn : n < 65536) (ha : a < 256) (hb : b < 256) : on n [a, b] = 0 ↔ n = 256 * a + b := by
 rw [on_two hn ha hb]; constructor
 · intro h; have := f8_zero (Nat.xor_lt_two_pow (n := 16) hn (by omega)) (f8_zero f8_lt h); exact xor_zero_eq this
 · intro h; rw [h, Nat.xor_self]; rfl
theorem and_mask (a : Int) : bits .and .i64 a 65535 = a % 65536 := by
 have h : (BitVec.ofInt 64 a).toNat &&& (BitVec.ofInt 64 65535).toNat = (a % 65536).toNat := by
  rw [BitVec.toNat_ofInt, show (BitVec.ofInt 64 65535).toNat = 2 ^ 16 - 1 from rfl, Nat.and_two_pow_sub_one_eq_mod]; omega
 show IntKind.i64.wrap ((BitVec.ofInt 64 a &&& BitVec.ofInt 64 65535).toNat : Int) = _; rw [BitVec.toNat_and, h, IntKind.wrap_i64]; omega
theorem and_mask_nat (n : Nat) : bits .and .i64 (n : Int) 65535 = ((n % 65536 : Nat) : Int) := by rw [and_mask]; omega
theorem xor_nat (a b : Nat) (ha : a < 65536) (hb : b < 65536) : bits .xor .i64 (a : Int) (b : Int) = ((a ^^^ b : Nat) : Int) := by
 have ha' : a % 2 ^ 64 = a := Nat.mod_eq_of_lt (by omega); have hb' : b % 2 ^ 64 = b := Nat.mod_eq_of_lt (by omega); have hx : a ^^^ b < 65536 := Nat.xor_lt_two_pow (n := 16) ha hb; show IntKind.i64.wrap ((BitVec.ofInt 64 (a : Int) ^^^ BitVec.ofInt 64 (b : Int)).toNat : Int) = _; rw [BitVec.toNat_xor, BitVec.ofInt_natCast, BitVec.ofInt_natCast, BitVec.toNat_ofNat, BitVec.toNat_ofNat, ha', hb', IntKind.wrap_i64]; omega
def dn : Nat → Nat → Nat
 | 0, x => x
 | j + 1, x => dbl (dn j x)
theorem dbl_hi {n : Nat} (h : 32768 ≤ n) : dbl n = (2 * n % 65536) ^^^ 4129 := by unfold dbl; rw [if_pos h]
theorem dbl_lo {n : Nat} (h : ¬ 32768 ≤ n) : dbl n = 2 * n % 65536 := by unfold dbl; rw [if_neg h, Nat.xor_zero]
def tabArr (k : Nat) : Array Value := Array.ofFn (n := 16) fun i => O Y (if i.val < k then ((f4 (4096 * i.val) : Nat) : Int) else 0)
theorem tabArr_zero : tabArr 0 = #[O Y 0, O Y 0, O Y 0, O Y 0, O Y 0, O Y 0, O Y 0, O Y 0, O Y 0, O Y 0, O Y 0, O Y 0, O Y 0, O Y 0, O Y 0, O Y 0] := by
 simp only [tabArr, Nat.not_lt_zero, if_false]; rfl
theorem tabArr_size (k : Nat) : (tabArr k).size = 16 := by simp [tabArr]
theorem tabArr_set (k : Nat) : (tabArr k).setIfInBounds k (O Y ((f4 (4096 * k) : Nat) : Int)) = tabArr (k + 1) := by
 apply Array.ext
 · simp [tabArr]
 · intro i h1 h2; have hi : i < 16 := by simpa [tabArr] using h2
   rw [Array.getElem_setIfInBounds (by simpa [tabArr] using hi)]; by_cases e : k = i
   · subst e; simp [tabArr]
   · rw [if_neg e]; simp only [tabArr, Array.getElem_ofFn]; have : (i < k) ↔ (i < k + 1) := by omega
     simp only [this]
theorem tabArr_get (j : Nat) (hj : j < 16) : (tabArr 16)[j]? = some (O Y ((f4 (4096 * j) : Nat) : Int)) := by
 rw [Array.getElem?_eq_getElem (by simpa [tabArr] using hj)]; simp [tabArr]
def nats (s : ByteArray) : List Nat := s.data.toList.map UInt8.toNat
theorem nats_length (s : ByteArray) : (nats s).length = s.size := by simp [nats]
theorem nats_lt (s : ByteArray) : ∀ a ∈ nats s, a < 256 := by
 intro a h; simp only [nats, List.mem_map] at h; obtain ⟨b, _, rfl⟩ := h; exact b.toNat_lt
def crcOn (a : Int) (s : ByteArray) : Int := ((on (a % 65536).toNat (nats s) : Nat) : Int)
theorem on_take_succ (n : Nat) (l : List Nat) (k : Nat) (h : k < l.length) : on n (l.take (k + 1)) = stp (on n (l.take k)) (l.getD k 0) := by
 rw [List.take_succ_eq_append_getElem h, on_append, GD, GE h]; rfl
theorem shl8_xor {n c : Nat} (hn : n < 65536) (hc : c < 256) : bits .xor .i64 (n : Int) ((c : Int) * 256) = ((n ^^^ 256 * c : Nat) : Int) := by
 rw [show ((c : Int) * 256) = ((256 * c : Nat) : Int) by omega]; exact xor_nat n (256 * c) hn (by omega)
theorem half_step {n : Nat} (hn : n < 65536) : bits .xor .i64 ((16 * n % 65536 : Nat) : Int) ((f4 (4096 * (n / 4096)) : Nat) : Int) = ((f4 n : Nat) : Int) := by
 rw [xor_nat _ _ (by omega) f4_lt, ← nib_eq hn]; have ht : ∀ i : Fin 16, tab.getD i.val 0 = f4 (4096 * i.val) := by decide +kernel
 have h2 : tab.getD (n / 4096) 0 = f4 (4096 * (n / 4096)) := ht ⟨n / 4096, by omega⟩; unfold nib; rw [h2]
end Go.Proofs.YtoopeamoejmjeaaGreat.CrcPlain
namespace Go.Proofs.YtoopeamoejmjeaaGreat.Crc
open RowKit CrcPlain
def lit16 : Array Value := #[O Y 0, O Y 4129, O Y 8258, O Y 12387, O Y 16516, O Y 20645, O Y 24774, O Y 28903, O Y 33032, O Y 37161, O Y 41290, O Y 45419, O Y 49548, O Y 53677, O Y 57806, O Y 61935]
theorem tabArr_16 : tabArr 16 = lit16 := by kernel_rfl
theorem table_walk (w : World) : Calls Tryz.prog 143 #[] w fun e w' => e = .returned (.agg (tabArr 16)) ∧ Below w.heap.size w w' := by
 go_enter Tryz.func143, Tryz.ntmps143; go_wp2; rw [← tabArr_zero]; have hZ := tabArr_size 0; obtain ⟨Z, HZ⟩ : ∃ Z, Hid (Z = tabArr 0) := ⟨_, ZZ rfl⟩
 rw [← HZ.out] at hZ ⊢; go_loopw [5] (fun i wr => ∃ (k : Nat) (T : Array Value), k ≤ 16 ∧ i = O Y k ∧ T.size = 16 ∧ Hid (T = tabArr k) ∧ wr = (w.alloc (.cells Z 79)).alloc (.cells T 79)) (fun i _ => 16 - (intOf i).toNat); case atStart => exact ⟨0, Z, by omega, rfl, hZ, HZ, rfl⟩
 case round =>
  obtain ⟨k, T, hk, rfl, hT, HT, rfl⟩ := hrel; by_cases hlt : k < 16
  · go_wp2; go_loopw [3, 10] (fun n i wr => ∃ j m : Nat, j ≤ 4 ∧ i = O Y j ∧ m < 65536 ∧ Hid (m = dn j (4096 * k)) ∧ n = O Y m ∧ wr = (w.alloc (.cells Z 79)).alloc (.cells T 79)) (fun _ i _ => 4 - (intOf i).toNat); case atStart => exact ⟨0, k * 4096, by omega, rfl, by omega, ZZ (by simp [dn]; omega), by go_num, rfl⟩
    case round =>
     obtain ⟨j, m, hj, rfl, hm, Hm, rfl, rfl⟩ := hrel; by_cases hj4 : j < 4
     · obtain ⟨q, hq, Hq⟩ : ∃ q : Nat, q < 65536 ∧ Hid (q = 2 * m % 65536) := ⟨_, by omega, ZZ rfl⟩
       have g1 : bits .and .i64 ((m : Int) * 2) 65535 = (q : Int) := by
        rw [show ((m : Int) * 2) = ((2 * m : Nat) : Int) by omega, Hq.out]; exact and_mask_nat _
       by_cases hh : 32768 ≤ m
       · obtain ⟨q2, Hq2⟩ : ∃ q2 : Nat, Hid (q2 = q ^^^ 4129) := ⟨_, ZZ rfl⟩
         have g2 : bits .xor .i64 (q : Int) 4129 = (q2 : Int) := by rw [Hq2.out]; exact xor_nat q 4129 hq (by omega)
         have g3 : ((m : Int) / 32768 == 1) = true := by simp; omega
         have fin : q2 = dbl m := by rw [Hq2.out, Hq.out, dbl_hi hh]
         have Hf := ZZ fin; clear fin; go_wp2; go_roundw; case rel => exact ⟨j + 1, q2, by omega, by go_num, by rw [Hf.out]; exact dbl_lt, ZZ (by rw [Hf.out, Hm.out]; rfl), rfl, trivial⟩
         case measure => simp [intOf]; omega
       · have g3 : ((m : Int) / 32768 == 1) = false := by simp; omega
         have fin : q = dbl m := by rw [Hq.out, dbl_lo hh]
         have Hf := ZZ fin; clear fin; go_wp2; go_roundw; case rel => exact ⟨j + 1, q, by omega, by go_num, by rw [Hf.out]; exact dbl_lt, ZZ (by rw [Hf.out, Hm.out]; rfl), rfl, trivial⟩
         case measure => simp [intOf]; omega
     · obtain rfl : j = 4 := by omega
       obtain ⟨T1, HT1⟩ : ∃ T1, Hid (T1 = tabArr (k + 1)) := ⟨_, ZZ rfl⟩
       have g : T.setIfInBounds k (O Y (m : Int)) = T1 := by rw [HT.out, HT1.out, Hm.out]; exact tabArr_set k
       clear Hm; go_wp2; go_roundw; case rel => exact ⟨k + 1, T1, by omega, by go_num, by rw [HT1.out]; exact tabArr_size _, HT1, rfl⟩
       case measure => simp [intOf]; omega
  · obtain rfl : k = 16 := by omega
    have hs1 : T.all (·.oneCell') = true := by rw [HT.out, tabArr_16]; simp [lit16, Value.oneCell']
    have hi : (Tryz.prog.info? 79).map (·.size) = some T.size := by rw [hT]; kernel_rfl
    have H1 := ZZ hs1; have H2 := ZZ hi; have H3 := ZZ hT; have H4 := ZZ hZ; clear hs1 hi hT hZ; go_wp2_with (first | (refine wpList_load_row rfl 79 _ rfl (w.heap.size + 1) rfl 79 T (0, 0) _ (heap_alloc2_new _ _ _) Tryz.underlying79 rfl H2.out ?_) | (refine wpList_store_row rfl 79 _ _ rfl w.heap.size T rfl rfl 79 Z (heap_alloc2_old _ _ _) H2.out (by rw [H4.out, H3.out]) H1.out ?_))
    refine bodyPost_ret (v := .agg T) (results_cell_row (p := 0) (ty := 79) rfl _ _ w.heap.size 79 T (0, 0) _ rfl (setRow_heap _ _ Z T 79 (0, 0) (heap_alloc2_old _ _ _)) Tryz.underlying79 rfl H2.out) rfl ⟨by rw [HT.out], ?_⟩; exact (((BR w.heap.size w).alloc (NR _) _).alloc (by simp) _).trans ⟨rfl, rfl, rfl, by simp, fun k hk => setRow_other _ _ _ _ (by omega)⟩
theorem ret_int {k : IntKind} {a b : Int} (h : a = b) : Ending.returned (.int k a) = .returned (.int k b) := by rw [h]
theorem wpList_store_row_at {P : Program} {ops : Array Oper} {rest : List Oper} {o : Oper} {a : Act} {w0 w : World} {B : Nat} {Q : Exit → Act → World → Prop} (hgd : o.guard = none) (ty : TypeId) (x y : Operand) (ho : o.op = .store ty x y)
 (g : Nat) (cells : Array Value) (hx : a.eval x = .pointer (some ⟨g, 0, none⟩)) (hy : a.eval y = .agg cells)
 (t : TypeId) (old : Array Value) (hg : w.heap[g]? = some (.cells old t (0, 0))) (hi : (P.info? ty).map (·.size) = some cells.size)
 (hold : old.size = cells.size) (h1 : cells.all (·.oneCell') = true) (hB : Below B w0 w) (hle : B ≤ g)
 (h : ∀ W, W.heap[g]? = some (.cells cells t (0, 0)) → Below B w0 W → W.heap.size = w.heap.size → (∀ k, k ≠ g → W.heap[k]? = w.heap[k]?) → wpList P ops Q rest (a.put o.dst undef) W) : wpList P ops Q (o :: rest) a w :=
 wpList_store_row hgd ty x y ho g cells hx hy t old hg hi hold h1
  (h _ (setRow_heap _ _ _ _ _ _ hg) (hB.trans ⟨rfl, rfl, rfl, by simp, fun k hk => setRow_other _ _ _ _ (by omega)⟩) (by simp) (fun k hk => setRow_other _ _ _ _ hk))
theorem on_walk (a : Int) (s : ByteArray) (w : World) (hs : s.size ≤ 9223372036854775807) :
 Calls Tryz.prog 109 #[O Y a, .string s] w fun e w' => e = .returned (O Y (crcOn a s)) ∧ Below w.heap.size w w' := by
 have hconv : ∀ W : World, (convert 9 152 (.string s)).run Tryz.prog W = .ok (.slice (some ⟨W.heap.size, 0, none⟩) s.size (grownCap W s.size 0 5)) (Lib.bytesWorld W 5 s) := fun W => Lib.run_convert_string_bytes W 9 152 5 s Tryz.underlying9 Tryz.underlying152 Tryz.underlying5; have hm := and_mask a; obtain ⟨n0, hn0, Hn0⟩ : ∃ n0 : Nat, n0 < 65536 ∧ Hid (n0 = (a % 65536).toNat) := ⟨_, by omega, ZZ rfl⟩
 rw [show a % 65536 = (n0 : Int) by rw [Hn0.out]; omega] at hm; have Hc := ZZ hconv; clear hconv; go_enter Tryz.func109, Tryz.ntmps109; go_wp2_with fail; refine (table_walk _).mono ?_; rintro e w1 ⟨rfl, hb⟩; obtain ⟨T, HT⟩ : ∃ T, Hid (T = tabArr 16) := ⟨_, ZZ rfl⟩
 rw [← HT.out]; have H1 : Hid (T.all (·.oneCell') = true) := ZZ (by rw [HT.out, tabArr_16]; simp [lit16, Value.oneCell']); have H2 : Hid ((Tryz.prog.info? 79).map (·.size) = some T.size) := ZZ (by rw [HT.out, tabArr_size]; kernel_rfl); have H3 : Hid (T.size = 16) := ZZ (by rw [HT.out, tabArr_size]); go_wp2_with (
  refine wpList_store_row_at rfl 79 _ _ rfl w1.heap.size T rfl rfl 79 _ (heap_alloc_new _ _) H2.out (by rw [H3.out]; rfl) H1.out (hb.alloc hb.size _) hb.size ?_
  intro W gT gB gS _
  replace gT := ZZ gT
  replace gS := ZZ gS
  obtain ⟨V, hV, vB, vT, vC⟩ : ∃ V, (convert 9 152 (.string s)).run Tryz.prog W = .ok (.slice (some ⟨W.heap.size, 0, none⟩) s.size (grownCap W s.size 0 5)) V ∧ Below w.heap.size w V ∧
   (∀ j, j < 16 → V.cell? ⟨w1.heap.size, j, none⟩ = some (O Y ((f4 (4096 * j) : Nat) : Int))) ∧ (∀ j, j < s.size → V.cell? ⟨W.heap.size, j, none⟩ = some (.int .u8 (((nats s).getD j 0 : Nat) : Int))) := by
   have hlt : w1.heap.size < W.heap.size := by have := gS.out; simp at this; omega
   refine ⟨_, Hc.out W, ?_, fun j hj => ?_, fun j hj => ?_⟩
   · exact gB.trans ⟨rfl, rfl, rfl, by rw [Lib.bytesWorld_size]; omega, fun k hk => Lib.bytesWorld_at_old _ _ _ _ (by have := hb.size; omega)⟩
   · rw [Lib.bytesWorld_old W 5 s ⟨w1.heap.size, j, none⟩ hlt, cell_of_row W w1.heap.size j T 79 (0, 0) gT.out, HT.out]; exact tabArr_get j hj
   · rw [Lib.bytesWorld_cell W 5 s j hj]; simp [nats, GD, hj]
  clear gT gS Hc H1 H2 H3 HT gB
  replace vT := ZZ vT
  replace vC := ZZ vC)
 go_loop [6, 15] (fun n i => ∃ k m : Nat, k ≤ s.size ∧ i = O Y k ∧ m < 65536 ∧ Hid (m = on n0 ((nats s).take k)) ∧ n = O Y m) (fun _ i => s.size - (intOf i).toNat); case atStart => exact ⟨0, n0, by omega, rfl, hn0, ZZ (by simp [on]), rfl⟩
 case round =>
  obtain ⟨k, m, hk, rfl, hm, Hm, rfl⟩ := hrel; by_cases hlt : k < s.size
  · have hcell := vC.out k hlt; obtain ⟨c, hc, Hc⟩ : ∃ c : Nat, c < 256 ∧ Hid (c = (nats s).getD k 0) := ⟨_, by
     have hk' : k < (nats s).length := by rw [nats_length]; exact hlt
     rw [GD, GE hk']; exact nats_lt s _ (List.getElem_mem hk'), ZZ rfl⟩
    rw [← Hc.out] at hcell; obtain ⟨n1, hn1, Hn1⟩ : ∃ n1 : Nat, n1 < 65536 ∧ Hid (n1 = m ^^^ 256 * c) := ⟨_, lay_lt hm hc, ZZ rfl⟩
    have g1 : bits .xor .i64 (m : Int) ((c : Int) * 256) = (n1 : Int) := by rw [Hn1.out]; exact shl8_xor hm hc
    obtain ⟨q1, hq1, Hq1⟩ : ∃ q : Nat, q < 65536 ∧ Hid (q = 16 * n1 % 65536) := ⟨_, by omega, ZZ rfl⟩
    have g2 : bits .and .i64 ((n1 : Int) * 16) 65535 = (q1 : Int) := by rw [show ((n1 : Int) * 16) = ((16 * n1 : Nat) : Int) by omega, Hq1.out]; exact and_mask_nat _
    obtain ⟨t1, Ht1⟩ : ∃ t : Nat, Hid (t = f4 (4096 * (n1 / 4096))) := ⟨_, ZZ rfl⟩
    have c1 := vT.out (n1 / 4096) (by omega); rw [← Ht1.out] at c1; obtain ⟨n2, hn2, Hn2⟩ : ∃ n2 : Nat, n2 < 65536 ∧ Hid (n2 = f4 n1) := ⟨_, f4_lt, ZZ rfl⟩
    have g3 : bits .xor .i64 (q1 : Int) (t1 : Int) = (n2 : Int) := by rw [Hq1.out, Ht1.out, Hn2.out]; exact half_step hn1
    obtain ⟨q2, hq2, Hq2⟩ : ∃ q : Nat, q < 65536 ∧ Hid (q = 16 * n2 % 65536) := ⟨_, by omega, ZZ rfl⟩
    have g4 : bits .and .i64 ((n2 : Int) * 16) 65535 = (q2 : Int) := by rw [show ((n2 : Int) * 16) = ((16 * n2 : Nat) : Int) by omega, Hq2.out]; exact and_mask_nat _
    obtain ⟨t2, Ht2⟩ : ∃ t : Nat, Hid (t = f4 (4096 * (n2 / 4096))) := ⟨_, ZZ rfl⟩
    have c2 := vT.out (n2 / 4096) (by omega); rw [← Ht2.out] at c2; obtain ⟨n3, hn3, Hn3⟩ : ∃ n3 : Nat, n3 < 65536 ∧ Hid (n3 = f4 n2) := ⟨_, f4_lt, ZZ rfl⟩
    have g5 : bits .xor .i64 (q2 : Int) (t2 : Int) = (n3 : Int) := by rw [Hq2.out, Ht2.out, Hn3.out]; exact half_step hn2
    have b1 : (n1 : Int) / 4096 < 16 := by omega
    have b2 : (n2 : Int) / 4096 < 16 := by omega
    go_wp2; go_round; case rel =>
     refine ⟨k + 1, n3, by omega, by go_num, hn3, ZZ ?_, rfl⟩; rw [on_take_succ _ _ _ (by rw [nats_length]; exact hlt), ← Hm.out, ← Hc.out, Hn3.out, Hn2.out, Hn1.out]; rfl
    case measure => simp [intOf]; omega
  · obtain rfl : k = s.size := by omega
    go_wp2; go_ret; refine ⟨ret_int ?_, vB⟩; unfold crcOn; rw [Hm.out, ← Hn0.out, List.take_of_length_le (by rw [nats_length]; omega)]
end Go.Proofs.YtoopeamoejmjeaaGreat.Crc
namespace Go.Proofs.YtoopeamoejmjeaaGreat.Tp
open RowKit YtoopeamoejmjeaaGreatW.PrintWords YtoopeamoejmjeaaGreatW.PrintLast YtoopeamoejmjeaaGreatW.PrintMore Tm
open CrcPlain Crc
theorem cof_any (s : ByteArray) (w : World) (hs : s.size ≤ 9223372036854775807) : Calls Tryz.prog 62 #[.string s] w fun e w' => e = .returned (O Y (crcOn 0 s)) ∧ Below w.heap.size w w' := by
 have hc := fun w => ZZ (on_walk 0 s w hs); replace hc := ZZ hc; go_enter Tryz.func62, Tryz.ntmps62; go_wp2_with fail; refine (hc.out _).out.mono ?_; rintro e w1 ⟨rfl, hb⟩; replace hb := ZZ hb; go_wp2_with fail; go_ret; exact ⟨rfl, hb.out⟩
theorem crcOn_bd (a : Int) (s : ByteArray) : ∃ n : Nat, crcOn a s = (n : Int) ∧ n < 65536 := ⟨_, rfl, on_lt (by omega) _⟩
def sealS (s : ByteArray) : ByteArray := s ++ strOfNums [crcOn 0 s / 256, crcOn 0 s % 256]
theorem seal_any (s : ByteArray) (w : World) (hs : s.size ≤ 1000000000) : Calls Tryz.prog 31 #[.string s] w fun e w' => e = .returned (.string (sealS s)) ∧ Below w.heap.size w w' := by
 have hc := fun w => ZZ (cof_any s w (by omega)); replace hc := ZZ hc; unfold sealS; obtain ⟨n, hn, hn2⟩ := crcOn_bd 0 s; rw [hn] at hc ⊢; clear hn; have hsz : (strOfNums [(n : Int) / 256, (n : Int) % 256]).size = 2 := strOfNums_size _; have hsz2 : ¬ 9223372036854775807 < s.size + (strOfNums [(n : Int) / 256, (n : Int) % 256]).size := by omega
 go_enter Tryz.func31, Tryz.ntmps31; go_wp2_with fail; refine (hc.out _).out.mono ?_; rintro e w1 ⟨rfl, hb⟩; have hb1 := ZZ hb; clear hb; have hcv : (convert 152 9 (.slice (some ⟨w1.heap.size, 0, none⟩) 2 2)).run Tryz.prog (w1.alloc (.cells #[.int .u8 ((n : Int) / 256), .int .u8 ((n : Int) % 256)] 5)) = .ok (.string (strOfNums [(n : Int) / 256, (n : Int) % 256])) (w1.alloc (.cells #[.int .u8 ((n : Int) / 256), .int .u8 ((n : Int) % 256)] 5)) :=
  conv_str (B := 0) ⟨by simp, .inr ⟨_, 2, _, rfl, Nat.zero_le _, heap_alloc_new w1 _, by simp, by decide, by simp, by simp⟩⟩
 replace hcv := ZZ hcv; go_wp2_with fail; rw [hcv.out]; have hb2 := ZZ (hb1.out.alloc hb1.out.size (.cells #[.int .u8 ((n : Int) / 256), .int .u8 ((n : Int) % 256)] 5)); clear hcv hb1 hn2 hsz; generalize hq : strOfNums [(n : Int) / 256, (n : Int) % 256] = q at *; replace hq := ZZ hq; go_wp2_with fail; go_ret; exact ⟨by rw [hq.out]; rfl, hb2.out⟩
def openS (s : ByteArray) : ByteArray × Int := if s.size < 2 then (BE, 2) else if crcOn 0 s = 0 then (s.extract 0 (s.size - 2), 0) else (BE, 5)
theorem open_any (s : ByteArray) (w : World) (hs : s.size ≤ 9223372036854775807) : Calls Tryz.prog 95 #[.string s] w fun e w' => e = .returned (.tuple #[.string (openS s).1, O Y (openS s).2]) ∧ Below w.heap.size w w' := by
 by_cases h2 : s.size < 2
 · have d2 : decide ((s.size : Int) - 2 < 0) = true := decide_eq_true (by omega); have hr : openS s = (BE, 2) := if_pos h2; rw [hr]; clear hr; go_enter Tryz.func95, Tryz.ntmps95; go_wp2_with fail; go_ret2; exact ⟨rfl, BR _ _⟩
 · have d2 : decide ((s.size : Int) - 2 < 0) = false := decide_eq_false (by omega); have hc := fun w => ZZ (cof_any s w hs); replace hc := ZZ hc; obtain ⟨n, hn, hn2⟩ := crcOn_bd 0 s; by_cases h0 : n = 0
   · have hr : openS s = (s.extract 0 (s.size - 2), 0) := by unfold openS; rw [if_neg h2, if_pos (by rw [hn, h0]; rfl)]
     rw [hr]; rw [hn, h0] at hc; have hx : ((s.size : Int) - 2).toNat = s.size - 2 := by omega
     obtain ⟨m, hm⟩ : ∃ m : Nat, s.size - 2 = m := ⟨_, rfl⟩
     have hm2 : (s.size : Int) - 2 = (m : Int) := by omega
     have hml : m ≤ s.size := by omega
     rw [hm]; clear hr hn hn2 h0 h2 hx hm; go_enter Tryz.func95, Tryz.ntmps95; go_wp2_with fail; refine (hc.out _).out.mono ?_; rintro e w1 ⟨rfl, hb⟩; replace hb := ZZ hb; go_wp2_with fail; go_ret2; exact ⟨rfl, hb.out⟩
   · have hr : openS s = (BE, 5) := by unfold openS; rw [if_neg h2, if_neg (by rw [hn]; omega)]
     rw [hr]; rw [hn] at hc; have d0 : ((n : Int) != 0) = true := bne_iff_ne.mpr (by omega); clear hr hn hn2 h0 h2; go_enter Tryz.func95, Tryz.ntmps95; go_wp2_with fail; refine (hc.out _).out.mono ?_; rintro e w1 ⟨rfl, hb⟩; replace hb := ZZ hb; go_wp2_with fail; go_ret2; exact ⟨rfl, hb.out⟩
end Go.Proofs.YtoopeamoejmjeaaGreat.Tp
namespace Go.Proofs.YtoopeamoejmjeaaGreat.Tp
open RowKit YtoopeamoejmjeaaGreatW.PrintWords YtoopeamoejmjeaaGreatW.PrintLast YtoopeamoejmjeaaGreatW.PrintMore Tm
section
attribute [local go_sem] max2_int min2_int max_two min_two
def mn (x y : Int) : Int := if y < x then y else x
def mx (x y : Int) : Int := if x < y then y else x
theorem mn_eq (x y : Int) : mn x y = min x y := by unfold mn; split <;> omega
theorem mx_eq (x y : Int) : mx x y = max x y := by unfold mx; split <;> omega
def risesB (e : Int) : Int → List Int → Bool
 | _, [] => true
 | last, n :: l => if n ≤ last ∨ e ≤ n then false else risesB e n l
def RiseRel (l : List Int) (e : Int) (vl vi : Value) : Prop := ∃ (k : Nat) (last : Int), k ≤ l.length ∧ vi = O Y k ∧ vl = O Y last ∧ risesB e last (l.drop k) = risesB e (-1) l
theorem drop_cons (l : List Int) (k : Nat) (y : Int) (h : l[k]? = some y) : l.drop k = y :: l.drop (k + 1) := by
 obtain ⟨h1, rfl⟩ := GI.1 h; exact List.drop_eq_getElem_cons h1
theorem rises_any (v : Value) (l : List Int) (e : Int) (w : World) (h : IntsAt w v l) : Calls Tryz.prog 50 #[v, O Y e] w fun x w' => x = .returned (.bool (risesB e (-1) l)) ∧ w' = w := by
 have H0 := ZZ h; obtain ⟨A, c, rfl, hc, hn63, _⟩ := id h; clear h; go_enter Tryz.func50, Tryz.ntmps50; go_wp2_with fail; go_loop [5, 7, 10] (fun vl _ vi => RiseRel l e vl vi) (fun _ _ vi => l.length - (intOf vi).toNat); case atStart => exact ⟨0, -1, Nat.zero_le _, rfl, rfl, rfl⟩
 case round =>
  obtain ⟨k, last, hk, rfl, rfl, hr⟩ := hrel; by_cases hkn : k < l.length
  · have hkn' : (k : Int) < (l.length : Int) := Int.ofNat_lt.2 hkn; have tk : decide (l.length ≤ k) = false := decide_eq_false (Nat.not_le.2 hkn); have hk9 : (k : Int) < 9223372036854775807 := by omega
    obtain ⟨y, hy⟩ : ∃ y, l[k]? = some y := ⟨l[k], GE hkn⟩
    obtain ⟨ad, rfl, hcell⟩ := IntsAt.at H0.out k y hy; rw [drop_cons l k y hy, risesB] at hr; have hkn3 := ZZ hkn; clear hy hkn hk; by_cases h1 : y ≤ last
    · have d1 : decide (y ≤ last) = true := decide_eq_true h1; rw [if_pos (.inl h1)] at hr; replace hr := ZZ hr; clear h1; go_wp2_with fail; go_ret; exact ⟨by rw [← hr.out]; rfl, rfl⟩
    · have d1 : decide (y ≤ last) = false := decide_eq_false h1; by_cases h2 : e ≤ y
      · have d2 : decide (e ≤ y) = true := decide_eq_true h2; rw [if_pos (.inr h2)] at hr; replace hr := ZZ hr; clear h1 h2; go_wp2_with fail; go_ret; exact ⟨by rw [← hr.out]; rfl, rfl⟩
      · have d2 : decide (e ≤ y) = false := decide_eq_false h2; rw [if_neg (by omega)] at hr; replace hr := ZZ hr; clear h1 h2; go_wp2_with fail; exact ⟨⟨k + 1, y, hkn3.out, by go_num, rfl, hr.out⟩, by have := hkn3.out; simp [intOf]; omega⟩
  · have e0 : ¬ ((k : Int) < (l.length : Int)) := fun h => hkn (Int.ofNat_lt.1 h); have hke : k = l.length := by omega
    rw [hke, List.drop_length, risesB] at hr; replace hr := ZZ hr; clear hkn hk hke; go_wp2_with fail; go_ret; exact ⟨by rw [← hr.out]; rfl, rfl⟩
def numsC (p q d j : Int) : Array Value := #[O Y (mx 1 (mn p 100)), O Y (mx 1 (mn q 1048576)), O Y (mx 1 (mn d (mx 1 (mn q 1048576)))), O Y (mx 0 (mn j 1048576))]
theorem numbers_any (p q d j : Int) (vb vo vc : Value) (w : World) : Calls Tryz.prog 49 #[.agg #[O Y p, O Y q, O Y d, O Y j, vb, vo, vc]] w fun x w' => x = .returned (.agg (numsC p q d j)) ∧ Below w.heap.size w w' := by
 have e1 : (if (100 : Int) < p then (100 : Int) else p) = mn p 100 := rfl; have e2 : (if (1 : Int) < mn p 100 then mn p 100 else 1) = mx 1 (mn p 100) := rfl; have e3 : (if (1048576 : Int) < q then (1048576 : Int) else q) = mn q 1048576 := rfl; have e4 : (if (1 : Int) < mn q 1048576 then mn q 1048576 else 1) = mx 1 (mn q 1048576) := rfl; have e5 : (if mx 1 (mn q 1048576) < d then mx 1 (mn q 1048576) else d) = mn d (mx 1 (mn q 1048576)) := rfl; have e6 : (if (1 : Int) < mn d (mx 1 (mn q 1048576)) then mn d (mx 1 (mn q 1048576)) else 1) = mx 1 (mn d (mx 1 (mn q 1048576))) := rfl; have e7 : (if (1048576 : Int) < j then (1048576 : Int) else j) = mn j 1048576 := rfl; have e8 : (if (0 : Int) < mn j 1048576 then mn j 1048576 else 0) = mx 0 (mn j 1048576) := rfl; unfold numsC; generalize mx 1 (mn d (mx 1 (mn q 1048576))) = a6 at *; generalize mn d (mx 1 (mn q 1048576)) = a5 at *; generalize mx 1 (mn q 1048576) = a4 at *; generalize mn q 1048576 = a3 at *; generalize mx 1 (mn p 100) = a2 at *; generalize mn p 100 = a1 at *; generalize mx 0 (mn j 1048576) = a8 at *; generalize mn j 1048576 = a7 at *; go_enter Tryz.func49, Tryz.ntmps49; go_wp2_with fail; refine bodyPost_ret (results_cell_row rfl _ _ (w.heap.size + 1) 120 _ (0, 0) _ rfl (by simpa using heap_alloc_last (w.alloc _) _) Tryz.underlying120 rfl (by kernel_rfl)) rfl ⟨rfl, ?_⟩; exact ((BR _ _).alloc (NR _) _).alloc (by simp) _
end
end Go.Proofs.YtoopeamoejmjeaaGreat.Tp
