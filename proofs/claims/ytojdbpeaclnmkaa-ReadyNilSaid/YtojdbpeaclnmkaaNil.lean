/- ReadyNil: a set that is not there has none. -/
import Derived.Test.YtojdbpeaclnmkaaKnown
set_option linter.unusedVariables false
set_option linter.unusedSimpArgs false
namespace Go.Proofs.Ytojdbpeaclnmkaa.Rd
open Go Go.RowKit Go.Proofs.YtojdbpeaclnmkaaW.PrintWords Go.Proofs.YtojdbpeaclnmkaaW.PrintLast Go.Proofs.YtojdbpeaclnmkaaW.PrintMore Go.Proofs.Ytojdbpeaclnmkaa Go.Proofs.Ytojdbpeaclnmkaa.Print
set_option maxRecDepth 100000 in
set_option maxHeartbeats 1000000 in
theorem nil_walk (j : S30) (w : World) : Calls Try.prog 6 #[.agg #[.int .i64 j.f0, .int .i64 j.f1, .int .i64 j.f2]] w fun e w' => e = .returned (.bool true) ∧ Below w.heap.size w w' := by
  have H1 : Below w.heap.size w (w.alloc (.cells #[.int .i64 j.f0, .int .i64 j.f1, .int .i64 j.f2] 30)) := (Below.refl _ _).alloc (Nat.le_refl _) _
  replace H1 := Lib.hid H1
  have C0 : (w.alloc (.cells #[.int .i64 j.f0, .int .i64 j.f1, .int .i64 j.f2] 30)).heap[w.heap.size]? = some (.cells #[.int .i64 j.f0, .int .i64 j.f1, .int .i64 j.f2] 30 (0, 0)) := heap_alloc_new w _
  replace C0 := Lib.hid C0
  go_enter Try.func6, Try.ntmps6
  go_wp2_with fail
  refine (takeNil 0 0 _).mono ?_
  rintro e w1 ⟨rfl, hb⟩
  have C1 : w1.heap[w.heap.size]? = some (.cells #[.int .i64 j.f0, .int .i64 j.f1, .int .i64 j.f2] 30 (0, 0)) := (hb.block _ (by simp)).trans C0.out
  have d0 : w1.cell? ⟨w.heap.size, 0, none⟩ = some (.int .i64 j.f0) := (cell_of_row w1 _ 0 _ 30 (0, 0) C1).trans rfl
  have d1 : w1.cell? ⟨w.heap.size, 1, none⟩ = some (.int .i64 j.f1) := (cell_of_row w1 _ 1 _ 30 (0, 0) C1).trans rfl
  have d2 : w1.cell? ⟨w.heap.size, 2, none⟩ = some (.int .i64 j.f2) := (cell_of_row w1 _ 2 _ 30 (0, 0) C1).trans rfl
  have hs : w.heap.size < w1.heap.size := Nat.lt_of_lt_of_le (by simp) hb.size
  have H2 : Below w.heap.size w w1 := H1.out.trans (hb.mono (by simp))
  replace H2 := Lib.hid H2
  clear C1 hb
  go_wp2_with fail
  refine (put_nil j _).mono ?_
  rintro e w2 ⟨rfl, hb⟩
  have H3 : Below w.heap.size w w2 := (H2.out.alloc H2.out.size _).trans (hb.mono (by have := H2.out.size; simp; omega))
  replace H3 := Lib.hid H3
  clear hb
  go_wp2_with fail
  refine (bestNil _).mono ?_
  rintro e w3 ⟨rfl, rfl⟩
  go_wp2_with fail
  refine (allNil _).mono ?_
  rintro e w4 ⟨rfl, rfl⟩
  go_wp2_with fail
  refine (copyNil _).mono ?_
  rintro e w5 ⟨rfl, rfl⟩
  go_wp2_with fail
  refine (known_walk _).mono ?_
  rintro e w6 ⟨rfl, hb⟩
  have H4 : Below w.heap.size w w6 := H3.out.trans (hb.mono H3.out.size)
  replace H4 := Lib.hid H4
  clear hb
  go_wp2_with fail
  go_ret
  exact ⟨rfl, H4.out⟩
end Go.Proofs.Ytojdbpeaclnmkaa.Rd
