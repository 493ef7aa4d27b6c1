/- The walk of num.plain: the call makes a new map of the ten operations that are never a fault, and turns nothing that was there; and how such a map answers. -/
import Derived.Test.YtbbfcfpbdgibaaaProg
import Derived.WalkKit
import Derived.RowKit
import Derived.Below
import Derived.Lib.Hide
import Derived.KernelRfl
import Derived.Maps.Own
import Derived.Carry
import Derived.MapKept
import Derived.Laws.Rows
namespace Go.Proofs.Ytbbfcfpbdgibaaa.Num
open Go.RowKit
/-- A key that is not there is put behind all. -/
theorem wpList_insert_new {P : Program} {ops : Array Oper} {rest : List Oper} {o : Oper} {a : Act} {w0 W : World} {B : Nat} {Q : Exit → Act → World → Prop}
    (hg : o.guard = none) (t kt et : TypeId) (m x v : Operand) (hop : o.op = .insert t m x v) (ht : P.underlying t = some (.map kt et)) (hk : P.underlying kt = some (.int .i64))
    (b : Nat) (l : List MapEntry) (c : Nat) (key : Int) (val : Value) (hm : a.eval m = .map (some b)) (hx : a.eval x = .int .i64 key) (hv : a.eval v = val)
    (hb : W.heap[b]? = some (.map l.toArray c)) (hB : Below B w0 W) (hle : B ≤ b) (hf : Instr.findNow (.int .i64) (.int .i64 key) l 0 = some none)
    (h : ∀ W', W'.heap[b]? = some (.map (l ++ [({ key := .int .i64 key, val := val, born := c } : MapEntry)]).toArray (c + 1)) → Below B w0 W' → wpList P ops Q rest (a.put o.dst undef) W') :
    wpList P ops Q (o :: rest) a W := by
  refine wpList_plain hg fun K' hK' => ?_
  have hc : (Instr.checkKey false 10000 kt (.int .i64 key)).run P W = .ok () W := MapKept.run_checkKey (k := .int .i64 key) hk (by simp [MapKept.IsKey]) false 9999
  have hrun : (Instr.mapUpdate t (.map (some b)) (.int .i64 key) val).run P W = .ok () { W with heap := W.heap.setIfInBounds b (.map (l ++ [({ key := .int .i64 key, val := val, born := c } : MapEntry)]).toArray (c + 1)) } := by
    simp [Instr.mapUpdate, run_underlying ht, MapKept.run_getObj_map hb, hc, MapKept.run_findKey hk hf, MapKept.run_setObj_map _ hb, Result.andThen]
  have hlt : b < W.heap.size := (Array.getElem?_eq_some_iff.1 hb).1
  unfold Oper.wp
  simp only [execOp, hop, hm, hx, hv]
  simp [hrun, Result.andThen]
  refine hK' _ _ (h _ (by simp [hlt]) (hB.trans ⟨rfl, rfl, rfl, by simp, fun k hk => ?_⟩))
  have : b ≠ k := by omega
  simp [this]

def ent (k : Int) (f : Nat) (c : Nat) : MapEntry := { key := .int .i64 k, val := .func (.func f) #[] #[], born := c }
def ten : List MapEntry := [ent 1 25 0, ent 2 26 1, ent 3 27 2, ent 6 28 3, ent 7 29 4, ent 8 30 5, ent 9 31 6, ent 10 32 7, ent 11 33 8, ent 12 34 9]

set_option maxHeartbeats 400000 in
theorem plain_walk (w : World) : Calls Try.prog 20 #[] w fun e w' => e = .returned (.map (some w.heap.size)) ∧ Hid (w'.heap[w.heap.size]? = some (.map ten.toArray 10)) ∧ Below w.heap.size w w' := by
  have hmm := @run_makeMap Try.prog
  go_enter Try.func20, Try.ntmps20
  go_wp2_with (first
    | (refine wpList_insert_new rfl 36 3 34 _ _ _ rfl Try.underlying36 Try.underlying3 w.heap.size [] 0 _ _ rfl rfl rfl (heap_alloc_new _ _) ((Below.refl w.heap.size w).alloc (Nat.le_refl _) _) (Nat.le_refl _) rfl ?_; intro W' hb hB; replace hb := Lib.hid hb; clear hmm)
    | (refine wpList_insert_new rfl 36 3 34 _ _ _ rfl Try.underlying36 Try.underlying3 w.heap.size _ _ _ _ rfl rfl rfl (hb.out) hB (Nat.le_refl _) rfl ?_; clear hb hB; intro W' hb hB; replace hb := Lib.hid hb))
  go_ret
  exact ⟨rfl, hb, hB⟩
theorem run_lookup_there {W : World} {b : Nat} {l : List MapEntry} {c : Nat} {key : Int} {i : Nat} {v : Value} (hb : W.heap[b]? = some (.map l.toArray c)) (hf : Instr.findNow (.int .i64) (.int .i64 key) l 0 = some (some (i, v))) :
    (Instr.lookup 36 (.map (some b)) (.int .i64 key) true).run Try.prog W = .ok (.tuple #[v, .bool true]) W := by
  have hc : ∀ e, (Instr.checkKey e 10000 3 (.int .i64 key)).run Try.prog W = .ok () W := fun e => MapKept.run_checkKey (k := .int .i64 key) Try.underlying3 (by simp [MapKept.IsKey]) e 9999
  simp [Instr.lookup, run_underlying Try.underlying36, MapKept.run_getObj_map hb, hc, MapKept.run_findKey Try.underlying3 hf, Result.andThen]
theorem run_lookup_miss {W : World} {b : Nat} {l : List MapEntry} {c : Nat} {key : Int} (hb : W.heap[b]? = some (.map l.toArray c)) (hf : Instr.findNow (.int .i64) (.int .i64 key) l 0 = some none) :
    (Instr.lookup 36 (.map (some b)) (.int .i64 key) true).run Try.prog W = .ok (.tuple #[.nilFunc, .bool false]) W := by
  have hc : ∀ e, (Instr.checkKey e 10000 3 (.int .i64 key)).run Try.prog W = .ok () W := fun e => MapKept.run_checkKey (k := .int .i64 key) Try.underlying3 (by simp [MapKept.IsKey]) e 9999
  have hz : (zeroValue 34).run Try.prog W = .ok .nilFunc W := by kernel_rfl
  simp [Instr.lookup, run_underlying Try.underlying36, MapKept.run_getObj_map hb, hc, MapKept.run_findKey Try.underlying3 hf, hz, Result.andThen]
end Go.Proofs.Ytbbfcfpbdgibaaa.Num
