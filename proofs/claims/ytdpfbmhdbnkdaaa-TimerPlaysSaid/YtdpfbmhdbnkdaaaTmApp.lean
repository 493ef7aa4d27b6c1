/- A row of the call's own is appended onto such a row. -/
import Derived.Test.YtdpfbmhdbnkdaaaTmSteady
import Derived.Laws.OwnMore
set_option linter.unusedVariables false
set_option linter.unusedSimpArgs false
namespace Go.Proofs.Ytdpfbmhdbnkdaaa.Tm
open Go Go.RowKit Go.Proofs.YtdpfbmhdbnkdaaaW.PrintWords Go.Proofs.YtdpfbmhdbnkdaaaW.PrintLast Go.Proofs.YtdpfbmhdbnkdaaaW.PrintMore Go.Proofs.Ytdpfbmhdbnkdaaa Go.Proofs.Ytdpfbmhdbnkdaaa.Print
attribute [local go_sem] max2_int min2_int max_two min_two
section
variable {ops : Array Oper} {o : Oper} {a : Act} {Q : Exit → Act → World → Prop} {rest : List Oper}
theorem run_append_row (W : World) (t ty e : TypeId) (z : Value) (size bytes : Nat)
    (ht : Try.prog.underlying t = some (.slice e)) (hinfo : (Try.prog.info? e).map (fun i => (i.zero, i.size, i.bytes)) = some (some z, size, bytes)) (hz : z.cells.size = size) (hs0 : 0 < size) (hb0 : 0 < bytes)
    (v : Value) (n : Nat) (xs ys : List Value) (A : Option Addr) (m c : Nat) (h1 : ∀ u ∈ ys, u.oneCell' = true)
    (HO : LRow W 0 e size v n xs) (HD : LRow W 0 e size (.slice A m c) m ys) (hlen : (n + m) * bytes ≤ 140737488355328) :
    ∃ v1 w1, (Builtin.append_ #[t, t] ty #[v, .slice A m c]).run Try.prog W = .ok v1 w1 ∧ LRow w1 0 e size v1 (n + m) (xs ++ ys) ∧ W.grownBy w1 v.ownBlock ∧ (v1.ownBlock = v.ownBlock ∨ v1.ownBlock = some W.heap.size) := by
  obtain ⟨i0, hi, hzz⟩ := Option.map_eq_some_iff.1 hinfo
  simp only [Prod.mk.injEq] at hzz
  obtain ⟨hz0, hz1, hz2⟩ := hzz
  have hlen' : n + m ≤ 140737488355328 := Nat.le_trans (Nat.le_mul_of_pos_right _ hb0) hlen
  rcases id HD.2 with ⟨h2, h3⟩ | ⟨b, cap, cur, h2, _⟩
  · injection h2 with e1 e2 e3
    subst e1 e2 e3
    obtain rfl : ys = [] := List.eq_nil_of_length_eq_zero (by have := HD.1; simpa using this)
    refine ⟨v, W, ?_, by rw [List.append_nil]; exact HO, ⟨rfl, rfl, rfl, Nat.le_refl _, fun _ _ _ => rfl⟩, .inl rfl⟩
    rcases HO.2 with ⟨rfl, rfl⟩ | ⟨g, cap, cur, rfl, _, _, hnc, _⟩
    · simp [Builtin.append_, run_underlying ht, sizeOf, typeInfo, hi, Builtin.lenOf, Builtin.firstCells]
    · simp [Builtin.append_, run_underlying ht, sizeOf, typeInfo, hi, Builtin.lenOf, Builtin.firstCells, hnc, storeCells]
  · injection h2 with e1 e2 e3
    subst e1
    exact run_append_loose (P := Try.prog) W 0 t ty e i0 z size bytes ht hi hz0 hz1 hz2 hz hs0 v n xs HO (some ⟨b, 0, none⟩) m c ys HD.1 (.inr ⟨_, rfl, fun j u hj => LRow.cell HD j u hj⟩) h1 (by simp only [maxLen]; omega) hlen (Nat.zero_le _)
theorem wpList_append_row (W : World) (hgd : o.guard = none) (s x : Operand) (t e : TypeId) (z : Value) (size bytes : Nat)
    (ho : o.op = .call { callee := .builtin .append, args := #[s, x], argTypes := #[t, t] })
    (ht : Try.prog.underlying t = some (.slice e)) (hinfo : (Try.prog.info? e).map (fun i => (i.zero, i.size, i.bytes)) = some (some z, size, bytes)) (hz : z.cells.size = size) (hs0 : 0 < size) (hb0 : 0 < bytes)
    (v : Value) (n : Nat) (xs ys : List Value) (A : Option Addr) (m c : Nat) (hs : a.eval s = v) (hx : a.eval x = .slice A m c) (h1 : ∀ u ∈ ys, u.oneCell' = true)
    (HO : LRow W 0 e size v n xs) (HD : LRow W 0 e size (.slice A m c) m ys) (hlen : (n + m) * bytes ≤ 140737488355328)
    (h : ∀ v1 w1, LRow w1 0 e size v1 (n + m) (xs ++ ys) → W.grownBy w1 v.ownBlock → (v1.ownBlock = v.ownBlock ∨ v1.ownBlock = some W.heap.size) → wpList Try.prog ops Q rest (a.put o.dst v1) w1) :
    wpList Try.prog ops Q (o :: rest) a W := by
  refine wpList_plain hgd fun K hK => ?_
  obtain ⟨v1, w1, hr, hown, hg, hat⟩ := run_append_row W t o.type e z size bytes ht hinfo hz hs0 hb0 v n xs ys A m c h1 HO HD hlen
  unfold Oper.wp execOp
  simp only [ho, resolve, invoke, builtin, Sem.run_bind, Sem.run_pure, Result.andThen_ok, List.map_toArray, List.map_cons, List.map_nil, hs, hx, hr]
  exact hK _ _ (h v1 w1 hown hg hat)
end
theorem Has.grow {w0 W w1 : World} {L1 L2 : List Asn} {e size n n' : Nat} {v v1 : Value} {xs zs : List Value} (h : Has w0 W (L1 ++ rowA e size n v xs :: L2)) (hg : W.grownBy w1 v.ownBlock) (hr : LRow w1 0 e size v1 n' zs) (hat : v1.ownBlock = v.ownBlock ∨ v1.ownBlock = some W.heap.size) : Has w0 w1 (L1 ++ rowA e size n' v1 zs :: L2) := by
  refine h.turn (fun S hS => ?_)
  obtain ⟨rfl, _⟩ := hS
  refine ⟨ownL v1, ⟨rfl, hr⟩, Keeps.of_grown hg _ (fun k hk => .inl (mem_ownL.2 hk)), fun k hk => ?_⟩
  rw [mem_ownL] at hk ⊢
  rcases hat with h1 | h1
  · exact .inl (h1.symm.trans hk)
  · rw [h1] at hk
    injection hk with hk
    exact .inr (by omega)
theorem Has.row {w0 W : World} {L : List Asn} {e size n : Nat} {v : Value} {xs : List Value} (h : Has w0 W L) (hm : rowA e size n v xs ∈ L) : LRow W 0 e size v n xs := by
  obtain ⟨_, ⟨_, hr⟩, _⟩ := h.get hm
  exact hr
theorem dueA_app (v : Value) (l D : List S48) : rowA 48 2 (l.length + D.length) v (l.flatMap enc2 ++ D.flatMap enc2) = dueA v (l ++ D) := by
  unfold dueA
  rw [List.length_append, flat_append]
theorem intA_app (v : Value) (l D : List Int) : rowA 3 1 (l.length + D.length) v (l.map (Value.int .i64) ++ D.map (Value.int .i64)) = intA v (l ++ D) := by
  unfold intA
  rw [List.length_append, List.map_append]
theorem dueA_nil (w0 W : World) {L : List Asn} (h : Has w0 W L) : Has w0 W (dueA (.slice none 0 0) [] :: L) := h.add (Below.refl _ _) [] (by simp) ⟨rfl, rfl, .inl ⟨rfl, rfl⟩⟩
theorem intA_nil (w0 W : World) {L : List Asn} (h : Has w0 W L) : Has w0 W (intA (.slice none 0 0) [] :: L) := h.add (Below.refl _ _) [] (by simp) ⟨rfl, rfl, .inl ⟨rfl, rfl⟩⟩
/-- a row that is written out -/
theorem Has.ints {w0 W : World} {L : List Asn} (h : Has w0 W L) (xs : List Int) (hx : xs.length ≤ 1000) : Has w0 (W.alloc (.cells (xs.map (Value.int .i64)).toArray 3)) (intA (.slice (some ⟨W.heap.size, 0, none⟩) xs.length xs.length) xs :: L) :=
  h.add ((Below.refl _ _).alloc (Nat.le_refl _) _) [W.heap.size] (by simp) ⟨rfl, by simp, .inr ⟨_, xs.length, _, rfl, Nat.zero_le _, heap_alloc_new W _, Nat.le_refl _, by unfold maxLen; omega, by simp, by simp; exact List.take_of_length_le (by simp)⟩⟩
end Go.Proofs.Ytdpfbmhdbnkdaaa.Tm
