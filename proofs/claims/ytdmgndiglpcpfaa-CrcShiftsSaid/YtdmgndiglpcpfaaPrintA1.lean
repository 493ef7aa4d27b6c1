/- WRITTEN BY A PROGRAM OF THE SESSION out of the translation: functions in plain Lean, and that the calls come to just these answers; Lean checks every line. -/
import Derived.Test.YtdmgndiglpcpfaaPrintA0
namespace Go.Proofs.Ytdmgndiglpcpfaa.PrintA
open Go.RowKit Go.Proofs.YtdmgndiglpcpfaaW.PrintWords Go.Proofs.YtdmgndiglpcpfaaW.PrintLast Go.Proofs.YtdmgndiglpcpfaaW.PrintMore
attribute [local go_sem] max2_int min2_int max_two min_two max_three min_three max_four min_four   -- for this text's walks alone
set_option linter.unusedVariables false
set_option linter.unusedSimpArgs false

-- NOT PRINTED: function 19 (crc_table)

/-! ### crc_On: function 15 (by hand) -/
def crc_On.f (a0 : Int) (a1 : ByteArray) : Option (Int) := if a1.size ≤ 9223372036854775807 then (some (CrcPlain.crcOn a0 a1)) else (none)
theorem crc_On.calls (a0 : Int) (a1 : ByteArray) (r : Int) (w : World) (h : crc_On.f a0 a1 = some r) :
    Calls Try.prog 15 #[.int .i64 a0, .string a1] w fun e w' => e = .returned (.int .i64 r) ∧ Below w.heap.size w w' := by
  unfold crc_On.f at h
  split at h
  · rename_i hs
    obtain rfl := Option.some.inj h
    exact Crc.on_walk a0 a1 w hs
  · cases h


/-! ### crc_Of: function 13 -/
def crc_Of.f (a0 : ByteArray) : Option (Int) := (crc_On.f 0 a0).bind fun t101 => (some t101)
set_option maxHeartbeats 8000000 in
set_option maxRecDepth 100000 in
theorem crc_Of.calls (a0 : ByteArray) (r : Int) (w : World) (h : crc_Of.f a0 = some r) :
    Calls Try.prog 13 #[.string a0] w fun e w' => e = .returned (.int .i64 r) ∧ Below w.heap.size w w' := by
  have HB := Aside0.mk (Below.refl w.heap.size w)
  have H : ((crc_On.f 0 a0).bind fun t101 => (some t101)) = some r := h
  clear h
  replace H := Option.bind_eq_some_iff.mp H
  obtain ⟨t101, A20, H⟩ := H
  replace H : (some t101) = some r := H
  have A2 := Aside0.mk A20
  clear A20
  obtain rfl := Option.some.inj H
  go_enter Try.func13, Try.ntmps13
  go_wp2_with (first | ((with_reducible refine gate_callee (f := 15) rfl ?_); refine goesL_ (some 4) rfl rfl Try.func15 (by kernel_rfl) rfl #[.int .i64 0, .string a0] rfl (by (try simp only [List.map_toArray, List.map_cons, List.map_nil]); first | done | rfl | (simp only [List.length_drop, List.length_take]; rfl)) ?_; (with_reducible refine (crc_On.calls 0 a0 t101 _ A2.out).mono ?_); rintro e w3 ⟨rfl, hb⟩; refine ⟨_, rfl, ?_⟩; have n0_ := Aside0.mk (below_step (by repeat (first | (with_reducible first | exact HB.out | apply below_alloc | apply pw_below_drewN | apply below_drew1) | exact HB.out)) hb); clear HB; have HB := n0_; clear n0_; (try clear hb); (try clear hb2); (try clear hk); (try clear hi)))
  go_ret
  exact ⟨by first | rfl | (simp [errW_none, errW_some] <;> rfl) | (simp [*, errW_none, errW_some] <;> rfl), by repeat (first | (with_reducible first | exact HB.out | apply below_alloc | apply pw_below_drewN | apply below_drew1) | exact HB.out)⟩

end Go.Proofs.Ytdmgndiglpcpfaa.PrintA
