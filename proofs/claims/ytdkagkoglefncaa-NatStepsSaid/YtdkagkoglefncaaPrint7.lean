/- WRITTEN BY A PROGRAM OF THE SESSION out of the translation: functions in plain Lean, and that the calls come to just these answers; Lean checks every line. -/
import Derived.Test.YtdkagkoglefncaaPrint0
import Derived.Test.YtdkagkoglefncaaPrint1
import Derived.Test.YtdkagkoglefncaaPrint3
import Derived.Test.YtdkagkoglefncaaPrint4
import Derived.Test.YtdkagkoglefncaaPrint5
import Derived.Test.YtdkagkoglefncaaPrint6
namespace Go.Proofs.Ytdkagkoglefncaa.Print
open Go.RowKit Go.Proofs.YtdkagkoglefncaaW.PrintWords Go.Proofs.YtdkagkoglefncaaW.PrintLast Go.Proofs.YtdkagkoglefncaaW.PrintMore
attribute [local go_sem] max2_int min2_int max_two min_two max_three min_three max_four min_four   -- for this text's walks alone
set_option linter.unusedVariables false
set_option linter.unusedSimpArgs false

/-! ### camshaftlaw10_known: function 10 (by hand) -/
def camshaftlaw10_known.f : Option (Bool) := some true
theorem reads_lit (W : World) (g t : Nat) (fr : Nat × Nat) (l : List Int) (hg : W.heap[g]? = some (.cells (l.map (Value.int .i64)).toArray t fr)) (hl : l.length ≤ 9223372036854775807) : Kd.C (Kd.int .i64) W (some ⟨g, 0, none⟩) l.length l := by
  refine Kd.C_of_reads (enc := Value.int .i64) (d := (0 : Int)) (h1 := fun _ => rfl) ⟨rfl, hl, fun _ => ⟨_, rfl, fun j hj => ?_⟩⟩
  rw [add_plain, cell_of_row W g j _ t fr hg]
  simp [List.getD_eq_getElem?_getD, hj]
theorem bt_known {w a b : World} (h : Below w.heap.size w a) (k : Below a.heap.size a b) : Below w.heap.size w b := h.trans (k.mono h.size)
set_option maxRecDepth 100000 in
set_option maxHeartbeats 1000000 in
theorem camshaftlaw10_known.calls (r : Bool) (w : World) (h : camshaftlaw10_known.f = some r) :
    Calls Try.prog 10 #[] w fun e w' => e = .returned (.bool r) ∧ Below w.heap.size w w' := by
  have h1 := Option.some.inj h
  rw [← h1]
  clear h h1
  have HB := Below.refl w.heap.size w
  have A1 : nat_Add.f 10 [1, 2, 3] = some (6, 0) := by decide +kernel
  have A2 : nat_Add.f 10 [4611686018427387903, 1] = some (0, 4) := by decide +kernel
  have A3 : nat_Add.f 10 [1, -1] = some (0, 1) := by decide +kernel
  have M1 : nat_Mul.f 10 2147483648 1073741824 = some (2305843009213693952, 0) := by decide +kernel
  have M2 : nat_Mul.f 10 2147483648 2147483648 = some (0, 4) := by decide +kernel
  have C1 : nat_Ceil.f 10 7 3 = some (3, 0) := by decide +kernel
  have C2 : nat_Ceil.f 10 7 0 = some (0, 1) := by decide +kernel
  have X1 : nat_Most.f [3, 9, -4] = some 9 := by decide +kernel
  have X2 : nat_Least.f [3, 9, -4] = some (-4) := by decide +kernel
  have R1 : nat_Right.f 0 = some true := by decide +kernel
  have R2 : nat_Right.f 4611686018427387904 = some false := by decide +kernel
  replace A1 := Aside0.mk A1; replace A2 := Aside0.mk A2; replace A3 := Aside0.mk A3; replace M1 := Aside0.mk M1; replace M2 := Aside0.mk M2; replace C1 := Aside0.mk C1; replace C2 := Aside0.mk C2
  replace X1 := Aside0.mk X1; replace X2 := Aside0.mk X2; replace R1 := Aside0.mk R1; replace R2 := Aside0.mk R2
  have SL : ∀ (W : World) (l : List Int), l.length ≤ 10 → Kd.C (Kd.int .i64) (W.alloc (.cells (l.map (Value.int .i64)).toArray 3)) (some ⟨W.heap.size, 0, none⟩) l.length l := fun W l hl => reads_lit _ _ 3 (0, 0) l (heap_alloc_new _ _) (by omega)
  replace SL := Aside0.mk SL
  go_enter Try.func10, Try.ntmps10
  go_wp2_with fail
  refine (nat_Add.calls 10 _ _ [1, 2, 3] _ _ _ (SL.out w [1, 2, 3] (by simp)) (by simp) A1.out).mono ?_
  rintro e w1 ⟨rfl, hd⟩
  replace HB := bt_known (HB.alloc HB.size _) hd.below; clear hd
  go_wp2_with fail
  refine (nat_Add.calls 10 _ _ [4611686018427387903, 1] _ _ _ (SL.out w1 [4611686018427387903, 1] (by simp)) (by simp) A2.out).mono ?_
  rintro e w2 ⟨rfl, hd⟩
  replace HB := bt_known (HB.alloc HB.size _) hd.below; clear hd
  go_wp2_with fail
  refine (nat_Add.calls 10 _ _ [1, -1] _ _ _ (SL.out w2 [1, -1] (by simp)) (by simp) A3.out).mono ?_
  rintro e w3 ⟨rfl, hd⟩
  replace HB := bt_known (HB.alloc HB.size _) hd.below; clear hd
  go_wp2_with fail
  refine (nat_Mul.calls 10 _ _ _ _ _ M1.out).mono ?_
  rintro e w4 ⟨rfl, hd⟩
  replace HB := bt_known HB hd.below; clear hd
  go_wp2_with fail
  refine (nat_Mul.calls 10 _ _ _ _ _ M2.out).mono ?_
  rintro e w5 ⟨rfl, hd⟩
  replace HB := bt_known HB hd.below; clear hd
  go_wp2_with fail
  refine (nat_Ceil.calls 10 _ _ _ _ _ C1.out).mono ?_
  rintro e w6 ⟨rfl, hd⟩
  replace HB := bt_known HB hd.below; clear hd
  go_wp2_with fail
  refine (nat_Ceil.calls 10 _ _ _ _ _ C2.out).mono ?_
  rintro e w7 ⟨rfl, hd⟩
  replace HB := bt_known HB hd.below; clear hd
  go_wp2_with fail
  refine (nat_Most.calls _ _ [3, 9, -4] _ _ (SL.out w7 [3, 9, -4] (by simp)) (by simp) X1.out).mono ?_
  rintro e w8 ⟨rfl, hd⟩
  replace HB := bt_known (HB.alloc HB.size _) hd.below; clear hd
  go_wp2_with fail
  refine (nat_Least.calls _ _ [3, 9, -4] _ _ (SL.out w8 [3, 9, -4] (by simp)) (by simp) X2.out).mono ?_
  rintro e w9 ⟨rfl, hd⟩
  replace HB := bt_known (HB.alloc HB.size _) hd.below; clear hd
  go_wp2_with fail
  refine (nat_Right.calls _ _ _ R1.out).mono ?_
  rintro e w10 ⟨rfl, hd⟩
  replace HB := bt_known HB hd.below; clear hd
  go_wp2_with fail
  refine (nat_Right.calls _ _ _ R2.out).mono ?_
  rintro e w11 ⟨rfl, hd⟩
  replace HB := bt_known HB hd.below; clear hd
  go_wp2_with fail
  go_ret
  exact ⟨rfl, HB⟩


end Go.Proofs.Ytdkagkoglefncaa.Print
