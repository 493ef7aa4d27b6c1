/- WRITTEN BY A PROGRAM OF THE SESSION out of the translation: functions in plain Lean, and that the calls come to just these answers; Lean checks every line. -/
import Derived.Test.YtbbfcfpbdgibaaaPrint0
import Derived.Test.YtbbfcfpbdgibaaaPrint6
namespace Go.Proofs.Ytbbfcfpbdgibaaa.Print
open Go.RowKit Go.Proofs.YtbbfcfpbdgibaaaW.PrintWords Go.Proofs.YtbbfcfpbdgibaaaW.PrintLast Go.Proofs.YtbbfcfpbdgibaaaW.PrintMore
attribute [local go_sem] max2_int min2_int max_two min_two max_three min_three max_four min_four   -- for this text's walks alone
set_option linter.unusedVariables false
set_option linter.unusedSimpArgs false

/-! ### num_Not: function 14 -/
def num_Not.f (a0 : Int) : Option (Int) := (num_Bool.f (a0 == 0)).bind fun t108 => (some t108)
set_option maxHeartbeats 8000000 in
set_option maxRecDepth 100000 in
theorem num_Not.calls (a0 : Int) (r : Int) (w : World) (h : num_Not.f a0 = some r) :
    Calls Try.prog 14 #[.int .i64 a0] w fun e w' => e = .returned (.int .i64 r) ∧ Drawn0 w w' := by
  have H : ((num_Bool.f (a0 == 0)).bind fun t108 => (some t108)) = some r := h
  clear h
  replace H := Option.bind_eq_some_iff.mp H
  obtain ⟨t108, A20, H⟩ := H
  replace H : (some t108) = some r := H
  have A2 := Aside0.mk A20
  clear A20
  obtain rfl := Option.some.inj H
  go_enter Try.func14, Try.ntmps14
  go_wp2_with (first | ((with_reducible refine gate_callee (f := 16) rfl ?_); refine goesL_ (some 5) rfl rfl Try.func16 (by kernel_rfl) rfl #[.bool (a0 == 0)] rfl (by (try simp only [List.map_toArray, List.map_cons, List.map_nil]); first | done | rfl | (simp only [List.length_drop, List.length_take]; rfl)) ?_; (with_reducible refine (num_Bool.calls (a0 == 0) t108 _ A2.out).mono ?_); rintro e w' ⟨rfl, ⟨nd, rfl⟩⟩; refine ⟨_, rfl, ?_⟩))
  go_ret
  exact ⟨by first | rfl | (simp; done) | (simp [*]; done), by repeat (first | exact Drawn0.refl _ | apply Drawn0.step)⟩

-- NOT PRINTED: function 24 (num_names)

/-! ### num_Name: function 17 (by hand) -/
def num_Name.f (a0 : Int) : Option (ByteArray) := some (Num.nameOf a0)
theorem num_Name.calls (a0 : Int) (r : ByteArray) (w : World) (h : num_Name.f a0 = some r) :
    Calls Try.prog 17 #[.int .i64 a0] w fun e w' => e = .returned (.string r) ∧ Below w.heap.size w w' := by
  have h1 := Option.some.inj h
  rw [← h1]
  exact Num.name_walk a0 w


end Go.Proofs.Ytbbfcfpbdgibaaa.Print
