/- WRITTEN BY A PROGRAM OF THE SESSION out of the translation: functions in plain Lean, and that the calls come to just these answers; Lean checks every line. -/
import Derived.Test.YtbbfcfpbdgibaaaPrint0
import Derived.Test.YtbbfcfpbdgibaaaPrint1
import Derived.Test.YtbbfcfpbdgibaaaPrint9
namespace Go.Proofs.Ytbbfcfpbdgibaaa.Print
open Go.RowKit Go.Proofs.YtbbfcfpbdgibaaaW.PrintWords Go.Proofs.YtbbfcfpbdgibaaaW.PrintLast Go.Proofs.YtbbfcfpbdgibaaaW.PrintMore
attribute [local go_sem] max2_int min2_int max_two min_two max_three min_three max_four min_four   -- for this text's walks alone
set_option linter.unusedVariables false
set_option linter.unusedSimpArgs false

/-! ### camshaftlaw01_NumDivides: function 4 -/
def camshaftlaw01_NumDivides.f (a0 : Int) (a1 : Int) : Option (Bool) := (num_Two.f 4 a0 a1).bind fun bt102 => ((num_Two.f 5 a0 a1).bind fun bt104 => (if a1 = 0 then (if bt102.1 = 0 then (if bt104.1 = 0 then (if bt102.2 = true then (if bt104.2 = true then ((camshaftlaw01_known.f).bind fun t106 => (some t106)) else (some false)) else (some false)) else (some false)) else (some false)) else ((num_Two.f 3 a1 bt102.1).bind fun bt107 => ((num_Two.f 1 bt107.1 bt104.1).bind fun bt109 => (if bt104.1 < a1 then (if bt104.1 > (wrap64 (-a1)) then (if bt109.1 = a0 then (if bt102.2 = true then (some false) else (if bt104.2 = true then (some false) else (if bt104.1 ≥ 0 then (if bt104.1 ≤ 0 then ((camshaftlaw01_known.f).bind fun t111 => (some t111)) else (if a0 > 0 then ((camshaftlaw01_known.f).bind fun t112 => (some t112)) else (some false))) else (if a0 < 0 then (if bt104.1 ≤ 0 then ((camshaftlaw01_known.f).bind fun t113 => (some t113)) else (if a0 > 0 then ((camshaftlaw01_known.f).bind fun t114 => (some t114)) else (some false))) else (some false))))) else (some false)) else (if bt104.1 > a1 then (if bt104.1 < (wrap64 (-a1)) then (if bt109.1 = a0 then (if bt102.2 = true then (some false) else (if bt104.2 = true then (some false) else (if bt104.1 ≥ 0 then (if bt104.1 ≤ 0 then ((camshaftlaw01_known.f).bind fun t115 => (some t115)) else (if a0 > 0 then ((camshaftlaw01_known.f).bind fun t116 => (some t116)) else (some false))) else (if a0 < 0 then (if bt104.1 ≤ 0 then ((camshaftlaw01_known.f).bind fun t117 => (some t117)) else (if a0 > 0 then ((camshaftlaw01_known.f).bind fun t118 => (some t118)) else (some false))) else (some false))))) else (some false)) else (if bt109.1 = a0 then (if bt102.2 = true then (some false) else (if bt104.2 = true then (some false) else (if a1 = (-9223372036854775808) then (if bt104.1 ≥ 0 then (if bt104.1 ≤ 0 then ((camshaftlaw01_known.f).bind fun t119 => (some t119)) else (if a0 > 0 then ((camshaftlaw01_known.f).bind fun t120 => (some t120)) else (some false))) else (if a0 < 0 then (if bt104.1 ≤ 0 then ((camshaftlaw01_known.f).bind fun t121 => (some t121)) else (if a0 > 0 then ((camshaftlaw01_known.f).bind fun t122 => (some t122)) else (some false))) else (some false))) else (some false)))) else (some false))) else (if bt109.1 = a0 then (if bt102.2 = true then (some false) else (if bt104.2 = true then (some false) else (if a1 = (-9223372036854775808) then (if bt104.1 ≥ 0 then (if bt104.1 ≤ 0 then ((camshaftlaw01_known.f).bind fun t123 => (some t123)) else (if a0 > 0 then ((camshaftlaw01_known.f).bind fun t124 => (some t124)) else (some false))) else (if a0 < 0 then (if bt104.1 ≤ 0 then ((camshaftlaw01_known.f).bind fun t125 => (some t125)) else (if a0 > 0 then ((camshaftlaw01_known.f).bind fun t126 => (some t126)) else (some false))) else (some false))) else (some false)))) else (some false)))) else (if bt104.1 > a1 then (if bt104.1 < (wrap64 (-a1)) then (if bt109.1 = a0 then (if bt102.2 = true then (some false) else (if bt104.2 = true then (some false) else (if bt104.1 ≥ 0 then (if bt104.1 ≤ 0 then ((camshaftlaw01_known.f).bind fun t127 => (some t127)) else (if a0 > 0 then ((camshaftlaw01_known.f).bind fun t128 => (some t128)) else (some false))) else (if a0 < 0 then (if bt104.1 ≤ 0 then ((camshaftlaw01_known.f).bind fun t129 => (some t129)) else (if a0 > 0 then ((camshaftlaw01_known.f).bind fun t130 => (some t130)) else (some false))) else (some false))))) else (some false)) else (if bt109.1 = a0 then (if bt102.2 = true then (some false) else (if bt104.2 = true then (some false) else (if a1 = (-9223372036854775808) then (if bt104.1 ≥ 0 then (if bt104.1 ≤ 0 then ((camshaftlaw01_known.f).bind fun t131 => (some t131)) else (if a0 > 0 then ((camshaftlaw01_known.f).bind fun t132 => (some t132)) else (some false))) else (if a0 < 0 then (if bt104.1 ≤ 0 then ((camshaftlaw01_known.f).bind fun t133 => (some t133)) else (if a0 > 0 then ((camshaftlaw01_known.f).bind fun t134 => (some t134)) else (some false))) else (some false))) else (some false)))) else (some false))) else (if bt109.1 = a0 then (if bt102.2 = true then (some false) else (if bt104.2 = true then (some false) else (if a1 = (-9223372036854775808) then (if bt104.1 ≥ 0 then (if bt104.1 ≤ 0 then ((camshaftlaw01_known.f).bind fun t135 => (some t135)) else (if a0 > 0 then ((camshaftlaw01_known.f).bind fun t136 => (some t136)) else (some false))) else (if a0 < 0 then (if bt104.1 ≤ 0 then ((camshaftlaw01_known.f).bind fun t137 => (some t137)) else (if a0 > 0 then ((camshaftlaw01_known.f).bind fun t138 => (some t138)) else (some false))) else (some false))) else (some false)))) else (some false))))))))
set_option maxHeartbeats 8000000 in
set_option maxRecDepth 100000 in
theorem camshaftlaw01_NumDivides.calls (a0 : Int) (a1 : Int) (r : Bool) (w : World) (hr : r = true) (h : camshaftlaw01_NumDivides.f a0 a1 = some r) :
    Calls Try.prog 4 #[.int .i64 a0, .int .i64 a1] w fun e w' => e = .returned (.bool r) ∧ Below w.heap.size w w' := by
  have HB := Aside0.mk (Below.refl w.heap.size w)
  have H : ((num_Two.f 4 a0 a1).bind fun bt102 => ((num_Two.f 5 a0 a1).bind fun bt104 => (if a1 = 0 then (if bt102.1 = 0 then (if bt104.1 = 0 then (if bt102.2 = true then (if bt104.2 = true then ((camshaftlaw01_known.f).bind fun t106 => (some t106)) else (some false)) else (some false)) else (some false)) else (some false)) else ((num_Two.f 3 a1 bt102.1).bind fun bt107 => ((num_Two.f 1 bt107.1 bt104.1).bind fun bt109 => (if bt104.1 < a1 then (if bt104.1 > (wrap64 (-a1)) then (if bt109.1 = a0 then (if bt102.2 = true then (some false) else (if bt104.2 = true then (some false) else (if bt104.1 ≥ 0 then (if bt104.1 ≤ 0 then ((camshaftlaw01_known.f).bind fun t111 => (some t111)) else (if a0 > 0 then ((camshaftlaw01_known.f).bind fun t112 => (some t112)) else (some false))) else (if a0 < 0 then (if bt104.1 ≤ 0 then ((camshaftlaw01_known.f).bind fun t113 => (some t113)) else (if a0 > 0 then ((camshaftlaw01_known.f).bind fun t114 => (some t114)) else (some false))) else (some false))))) else (some false)) else (if bt104.1 > a1 then (if bt104.1 < (wrap64 (-a1)) then (if bt109.1 = a0 then (if bt102.2 = true then (some false) else (if bt104.2 = true then (some false) else (if bt104.1 ≥ 0 then (if bt104.1 ≤ 0 then ((camshaftlaw01_known.f).bind fun t115 => (some t115)) else (if a0 > 0 then ((camshaftlaw01_known.f).bind fun t116 => (some t116)) else (some false))) else (if a0 < 0 then (if bt104.1 ≤ 0 then ((camshaftlaw01_known.f).bind fun t117 => (some t117)) else (if a0 > 0 then ((camshaftlaw01_known.f).bind fun t118 => (some t118)) else (some false))) else (some false))))) else (some false)) else (if bt109.1 = a0 then (if bt102.2 = true then (some false) else (if bt104.2 = true then (some false) else (if a1 = (-9223372036854775808) then (if bt104.1 ≥ 0 then (if bt104.1 ≤ 0 then ((camshaftlaw01_known.f).bind fun t119 => (some t119)) else (if a0 > 0 then ((camshaftlaw01_known.f).bind fun t120 => (some t120)) else (some false))) else (if a0 < 0 then (if bt104.1 ≤ 0 then ((camshaftlaw01_known.f).bind fun t121 => (some t121)) else (if a0 > 0 then ((camshaftlaw01_known.f).bind fun t122 => (some t122)) else (some false))) else (some false))) else (some false)))) else (some false))) else (if bt109.1 = a0 then (if bt102.2 = true then (some false) else (if bt104.2 = true then (some false) else (if a1 = (-9223372036854775808) then (if bt104.1 ≥ 0 then (if bt104.1 ≤ 0 then ((camshaftlaw01_known.f).bind fun t123 => (some t123)) else (if a0 > 0 then ((camshaftlaw01_known.f).bind fun t124 => (some t124)) else (some false))) else (if a0 < 0 then (if bt104.1 ≤ 0 then ((camshaftlaw01_known.f).bind fun t125 => (some t125)) else (if a0 > 0 then ((camshaftlaw01_known.f).bind fun t126 => (some t126)) else (some false))) else (some false))) else (some false)))) else (some false)))) else (if bt104.1 > a1 then (if bt104.1 < (wrap64 (-a1)) then (if bt109.1 = a0 then (if bt102.2 = true then (some false) else (if bt104.2 = true then (some false) else (if bt104.1 ≥ 0 then (if bt104.1 ≤ 0 then ((camshaftlaw01_known.f).bind fun t127 => (some t127)) else (if a0 > 0 then ((camshaftlaw01_known.f).bind fun t128 => (some t128)) else (some false))) else (if a0 < 0 then (if bt104.1 ≤ 0 then ((camshaftlaw01_known.f).bind fun t129 => (some t129)) else (if a0 > 0 then ((camshaftlaw01_known.f).bind fun t130 => (some t130)) else (some false))) else (some false))))) else (some false)) else (if bt109.1 = a0 then (if bt102.2 = true then (some false) else (if bt104.2 = true then (some false) else (if a1 = (-9223372036854775808) then (if bt104.1 ≥ 0 then (if bt104.1 ≤ 0 then ((camshaftlaw01_known.f).bind fun t131 => (some t131)) else (if a0 > 0 then ((camshaftlaw01_known.f).bind fun t132 => (some t132)) else (some false))) else (if a0 < 0 then (if bt104.1 ≤ 0 then ((camshaftlaw01_known.f).bind fun t133 => (some t133)) else (if a0 > 0 then ((camshaftlaw01_known.f).bind fun t134 => (some t134)) else (some false))) else (some false))) else (some false)))) else (some false))) else (if bt109.1 = a0 then (if bt102.2 = true then (some false) else (if bt104.2 = true then (some false) else (if a1 = (-9223372036854775808) then (if bt104.1 ≥ 0 then (if bt104.1 ≤ 0 then ((camshaftlaw01_known.f).bind fun t135 => (some t135)) else (if a0 > 0 then ((camshaftlaw01_known.f).bind fun t136 => (some t136)) else (some false))) else (if a0 < 0 then (if bt104.1 ≤ 0 then ((camshaftlaw01_known.f).bind fun t137 => (some t137)) else (if a0 > 0 then ((camshaftlaw01_known.f).bind fun t138 => (some t138)) else (some false))) else (some false))) else (some false)))) else (some false))))))))) = some r := h
  clear h
  replace H := Option.bind_eq_some_iff.mp H
  obtain ⟨⟨t102, t103⟩, A30, H⟩ := H
  replace H : ((num_Two.f 5 a0 a1).bind fun bt104 => (if a1 = 0 then (if t102 = 0 then (if bt104.1 = 0 then (if t103 = true then (if bt104.2 = true then ((camshaftlaw01_known.f).bind fun t106 => (some t106)) else (some false)) else (some false)) else (some false)) else (some false)) else ((num_Two.f 3 a1 t102).bind fun bt107 => ((num_Two.f 1 bt107.1 bt104.1).bind fun bt109 => (if bt104.1 < a1 then (if bt104.1 > (wrap64 (-a1)) then (if bt109.1 = a0 then (if t103 = true then (some false) else (if bt104.2 = true then (some false) else (if bt104.1 ≥ 0 then (if bt104.1 ≤ 0 then ((camshaftlaw01_known.f).bind fun t111 => (some t111)) else (if a0 > 0 then ((camshaftlaw01_known.f).bind fun t112 => (some t112)) else (some false))) else (if a0 < 0 then (if bt104.1 ≤ 0 then ((camshaftlaw01_known.f).bind fun t113 => (some t113)) else (if a0 > 0 then ((camshaftlaw01_known.f).bind fun t114 => (some t114)) else (some false))) else (some false))))) else (some false)) else (if bt104.1 > a1 then (if bt104.1 < (wrap64 (-a1)) then (if bt109.1 = a0 then (if t103 = true then (some false) else (if bt104.2 = true then (some false) else (if bt104.1 ≥ 0 then (if bt104.1 ≤ 0 then ((camshaftlaw01_known.f).bind fun t115 => (some t115)) else (if a0 > 0 then ((camshaftlaw01_known.f).bind fun t116 => (some t116)) else (some false))) else (if a0 < 0 then (if bt104.1 ≤ 0 then ((camshaftlaw01_known.f).bind fun t117 => (some t117)) else (if a0 > 0 then ((camshaftlaw01_known.f).bind fun t118 => (some t118)) else (some false))) else (some false))))) else (some false)) else (if bt109.1 = a0 then (if t103 = true then (some false) else (if bt104.2 = true then (some false) else (if a1 = (-9223372036854775808) then (if bt104.1 ≥ 0 then (if bt104.1 ≤ 0 then ((camshaftlaw01_known.f).bind fun t119 => (some t119)) else (if a0 > 0 then ((camshaftlaw01_known.f).bind fun t120 => (some t120)) else (some false))) else (if a0 < 0 then (if bt104.1 ≤ 0 then ((camshaftlaw01_known.f).bind fun t121 => (some t121)) else (if a0 > 0 then ((camshaftlaw01_known.f).bind fun t122 => (some t122)) else (some false))) else (some false))) else (some false)))) else (some false))) else (if bt109.1 = a0 then (if t103 = true then (some false) else (if bt104.2 = true then (some false) else (if a1 = (-9223372036854775808) then (if bt104.1 ≥ 0 then (if bt104.1 ≤ 0 then ((camshaftlaw01_known.f).bind fun t123 => (some t123)) else (if a0 > 0 then ((camshaftlaw01_known.f).bind fun t124 => (some t124)) else (some false))) else (if a0 < 0 then (if bt104.1 ≤ 0 then ((camshaftlaw01_known.f).bind fun t125 => (some t125)) else (if a0 > 0 then ((camshaftlaw01_known.f).bind fun t126 => (some t126)) else (some false))) else (some false))) else (some false)))) else (some false)))) else (if bt104.1 > a1 then (if bt104.1 < (wrap64 (-a1)) then (if bt109.1 = a0 then (if t103 = true then (some false) else (if bt104.2 = true then (some false) else (if bt104.1 ≥ 0 then (if bt104.1 ≤ 0 then ((camshaftlaw01_known.f).bind fun t127 => (some t127)) else (if a0 > 0 then ((camshaftlaw01_known.f).bind fun t128 => (some t128)) else (some false))) else (if a0 < 0 then (if bt104.1 ≤ 0 then ((camshaftlaw01_known.f).bind fun t129 => (some t129)) else (if a0 > 0 then ((camshaftlaw01_known.f).bind fun t130 => (some t130)) else (some false))) else (some false))))) else (some false)) else (if bt109.1 = a0 then (if t103 = true then (some false) else (if bt104.2 = true then (some false) else (if a1 = (-9223372036854775808) then (if bt104.1 ≥ 0 then (if bt104.1 ≤ 0 then ((camshaftlaw01_known.f).bind fun t131 => (some t131)) else (if a0 > 0 then ((camshaftlaw01_known.f).bind fun t132 => (some t132)) else (some false))) else (if a0 < 0 then (if bt104.1 ≤ 0 then ((camshaftlaw01_known.f).bind fun t133 => (some t133)) else (if a0 > 0 then ((camshaftlaw01_known.f).bind fun t134 => (some t134)) else (some false))) else (some false))) else (some false)))) else (some false))) else (if bt109.1 = a0 then (if t103 = true then (some false) else (if bt104.2 = true then (some false) else (if a1 = (-9223372036854775808) then (if bt104.1 ≥ 0 then (if bt104.1 ≤ 0 then ((camshaftlaw01_known.f).bind fun t135 => (some t135)) else (if a0 > 0 then ((camshaftlaw01_known.f).bind fun t136 => (some t136)) else (some false))) else (if a0 < 0 then (if bt104.1 ≤ 0 then ((camshaftlaw01_known.f).bind fun t137 => (some t137)) else (if a0 > 0 then ((camshaftlaw01_known.f).bind fun t138 => (some t138)) else (some false))) else (some false))) else (some false)))) else (some false)))))))) = some r := H
  have A3 := Aside0.mk A30
  clear A30
  replace H := Option.bind_eq_some_iff.mp H
  obtain ⟨⟨t104, t105⟩, A40, H⟩ := H
  replace H : (if a1 = 0 then (if t102 = 0 then (if t104 = 0 then (if t103 = true then (if t105 = true then ((camshaftlaw01_known.f).bind fun t106 => (some t106)) else (some false)) else (some false)) else (some false)) else (some false)) else ((num_Two.f 3 a1 t102).bind fun bt107 => ((num_Two.f 1 bt107.1 t104).bind fun bt109 => (if t104 < a1 then (if t104 > (wrap64 (-a1)) then (if bt109.1 = a0 then (if t103 = true then (some false) else (if t105 = true then (some false) else (if t104 ≥ 0 then (if t104 ≤ 0 then ((camshaftlaw01_known.f).bind fun t111 => (some t111)) else (if a0 > 0 then ((camshaftlaw01_known.f).bind fun t112 => (some t112)) else (some false))) else (if a0 < 0 then (if t104 ≤ 0 then ((camshaftlaw01_known.f).bind fun t113 => (some t113)) else (if a0 > 0 then ((camshaftlaw01_known.f).bind fun t114 => (some t114)) else (some false))) else (some false))))) else (some false)) else (if t104 > a1 then (if t104 < (wrap64 (-a1)) then (if bt109.1 = a0 then (if t103 = true then (some false) else (if t105 = true then (some false) else (if t104 ≥ 0 then (if t104 ≤ 0 then ((camshaftlaw01_known.f).bind fun t115 => (some t115)) else (if a0 > 0 then ((camshaftlaw01_known.f).bind fun t116 => (some t116)) else (some false))) else (if a0 < 0 then (if t104 ≤ 0 then ((camshaftlaw01_known.f).bind fun t117 => (some t117)) else (if a0 > 0 then ((camshaftlaw01_known.f).bind fun t118 => (some t118)) else (some false))) else (some false))))) else (some false)) else (if bt109.1 = a0 then (if t103 = true then (some false) else (if t105 = true then (some false) else (if a1 = (-9223372036854775808) then (if t104 ≥ 0 then (if t104 ≤ 0 then ((camshaftlaw01_known.f).bind fun t119 => (some t119)) else (if a0 > 0 then ((camshaftlaw01_known.f).bind fun t120 => (some t120)) else (some false))) else (if a0 < 0 then (if t104 ≤ 0 then ((camshaftlaw01_known.f).bind fun t121 => (some t121)) else (if a0 > 0 then ((camshaftlaw01_known.f).bind fun t122 => (some t122)) else (some false))) else (some false))) else (some false)))) else (some false))) else (if bt109.1 = a0 then (if t103 = true then (some false) else (if t105 = true then (some false) else (if a1 = (-9223372036854775808) then (if t104 ≥ 0 then (if t104 ≤ 0 then ((camshaftlaw01_known.f).bind fun t123 => (some t123)) else (if a0 > 0 then ((camshaftlaw01_known.f).bind fun t124 => (some t124)) else (some false))) else (if a0 < 0 then (if t104 ≤ 0 then ((camshaftlaw01_known.f).bind fun t125 => (some t125)) else (if a0 > 0 then ((camshaftlaw01_known.f).bind fun t126 => (some t126)) else (some false))) else (some false))) else (some false)))) else (some false)))) else (if t104 > a1 then (if t104 < (wrap64 (-a1)) then (if bt109.1 = a0 then (if t103 = true then (some false) else (if t105 = true then (some false) else (if t104 ≥ 0 then (if t104 ≤ 0 then ((camshaftlaw01_known.f).bind fun t127 => (some t127)) else (if a0 > 0 then ((camshaftlaw01_known.f).bind fun t128 => (some t128)) else (some false))) else (if a0 < 0 then (if t104 ≤ 0 then ((camshaftlaw01_known.f).bind fun t129 => (some t129)) else (if a0 > 0 then ((camshaftlaw01_known.f).bind fun t130 => (some t130)) else (some false))) else (some false))))) else (some false)) else (if bt109.1 = a0 then (if t103 = true then (some false) else (if t105 = true then (some false) else (if a1 = (-9223372036854775808) then (if t104 ≥ 0 then (if t104 ≤ 0 then ((camshaftlaw01_known.f).bind fun t131 => (some t131)) else (if a0 > 0 then ((camshaftlaw01_known.f).bind fun t132 => (some t132)) else (some false))) else (if a0 < 0 then (if t104 ≤ 0 then ((camshaftlaw01_known.f).bind fun t133 => (some t133)) else (if a0 > 0 then ((camshaftlaw01_known.f).bind fun t134 => (some t134)) else (some false))) else (some false))) else (some false)))) else (some false))) else (if bt109.1 = a0 then (if t103 = true then (some false) else (if t105 = true then (some false) else (if a1 = (-9223372036854775808) then (if t104 ≥ 0 then (if t104 ≤ 0 then ((camshaftlaw01_known.f).bind fun t135 => (some t135)) else (if a0 > 0 then ((camshaftlaw01_known.f).bind fun t136 => (some t136)) else (some false))) else (if a0 < 0 then (if t104 ≤ 0 then ((camshaftlaw01_known.f).bind fun t137 => (some t137)) else (if a0 > 0 then ((camshaftlaw01_known.f).bind fun t138 => (some t138)) else (some false))) else (some false))) else (some false)))) else (some false))))))) = some r := H
  have A4 := Aside0.mk A40
  clear A40
  by_cases c5 : a1 = 0
  · rw [if_pos c5] at H
    have c5b0 : (a1 == 0) = true := beq_iff_eq.mpr c5
    have c5b1 : (a1 != 0) = false := bne_eq_false_iff_eq.mpr c5
    clear c5
    by_cases c6 : t102 = 0
    · rw [if_pos c6] at H
      have c6b0 : (t102 == 0) = true := beq_iff_eq.mpr c6
      have c6b1 : (t102 != 0) = false := bne_eq_false_iff_eq.mpr c6
      clear c6
      by_cases c7 : t104 = 0
      · rw [if_pos c7] at H
        have c7b0 : (t104 == 0) = true := beq_iff_eq.mpr c7
        have c7b1 : (t104 != 0) = false := bne_eq_false_iff_eq.mpr c7
        clear c7
        by_cases c8 : t103 = true
        · subst c8
          have H1 : (if t105 = true then ((camshaftlaw01_known.f).bind fun t106 => (some t106)) else (some false)) = some r := by rw [if_pos rfl] at H; exact H
          clear H
          have H := H1
          clear H1
          by_cases c9 : t105 = true
          · subst c9
            have H1 : ((camshaftlaw01_known.f).bind fun t106 => (some t106)) = some r := by rw [if_pos rfl] at H; exact H
            clear H
            have H := H1
            clear H1
            replace H := Option.bind_eq_some_iff.mp H
            obtain ⟨t106, A100, H⟩ := H
            replace H : (some t106) = some r := H
            have A10 := Aside0.mk A100
            clear A100
            obtain rfl := Option.some.inj H
            go_enter Try.func4, Try.ntmps4
            go_wp2_with (first | ((with_reducible refine gate_callee (f := 11) rfl ?_); refine goesL_ (some 17) rfl rfl Try.func11 (by kernel_rfl) rfl #[.int .i64 4, .int .i64 a0, .int .i64 a1] rfl (by (try simp only [List.map_toArray, List.map_cons, List.map_nil]); first | done | rfl | (simp only [List.length_drop, List.length_take]; rfl)) ?_; (with_reducible refine (num_Two.calls 4 a0 a1 t102 true _ A3.out).mono ?_); rintro e w11 ⟨rfl, hb⟩; refine ⟨_, rfl, ?_⟩; have n0_ := Aside0.mk (below_step (by repeat (first | (with_reducible first | exact HB.out | apply below_alloc | apply pw_below_drewN | apply below_drew1) | exact HB.out)) hb); clear HB; have HB := n0_; clear n0_ hb) | ((with_reducible refine gate_callee (f := 11) rfl ?_); refine goesL_ (some 23) rfl rfl Try.func11 (by kernel_rfl) rfl #[.int .i64 5, .int .i64 a0, .int .i64 a1] rfl (by (try simp only [List.map_toArray, List.map_cons, List.map_nil]); first | done | rfl | (simp only [List.length_drop, List.length_take]; rfl)) ?_; (with_reducible refine (num_Two.calls 5 a0 a1 t104 true _ A4.out).mono ?_); rintro e w12 ⟨rfl, hb⟩; refine ⟨_, rfl, ?_⟩; have n0_ := Aside0.mk (below_step (by repeat (first | (with_reducible first | exact HB.out | apply below_alloc | apply pw_below_drewN | apply below_drew1) | exact HB.out)) hb); clear HB; have HB := n0_; clear n0_ hb) | (go_at_call 19; (with_reducible refine (camshaftlaw01_known.calls  t106 _ A10.out).mono ?_); rintro e w13 ⟨rfl, hb⟩; have n0_ := Aside0.mk (below_step (by repeat (first | (with_reducible first | exact HB.out | apply below_alloc | apply pw_below_drewN | apply below_drew1) | exact HB.out)) hb); clear HB; have HB := n0_; clear n0_ hb))
            go_ret
            exact ⟨by first | rfl | (simp [errW_none, errW_some] <;> rfl) | (simp [*, errW_none, errW_some] <;> rfl), by repeat (first | (with_reducible first | exact HB.out | apply below_alloc | apply pw_below_drewN | apply below_drew1) | exact HB.out)⟩
          · replace c9 := Bool.eq_false_iff.mpr c9
            subst c9
            have H1 : (some false) = some r := by rw [if_neg (show ¬ (false = true) by decide)] at H; exact H
            clear H
            have H := H1
            clear H1
            obtain rfl := Option.some.inj H
            cases hr
        · replace c8 := Bool.eq_false_iff.mpr c8
          subst c8
          have H1 : (some false) = some r := by rw [if_neg (show ¬ (false = true) by decide)] at H; exact H
          clear H
          have H := H1
          clear H1
          obtain rfl := Option.some.inj H
          cases hr
      · rw [if_neg c7] at H
        have c7b0 : (t104 == 0) = false := beq_eq_false_iff_ne.mpr c7
        have c7b1 : (t104 != 0) = true := bne_iff_ne.mpr c7
        obtain rfl := Option.some.inj H
        cases hr
    · rw [if_neg c6] at H
      have c6b0 : (t102 == 0) = false := beq_eq_false_iff_ne.mpr c6
      have c6b1 : (t102 != 0) = true := bne_iff_ne.mpr c6
      obtain rfl := Option.some.inj H
      cases hr
  · rw [if_neg c5] at H
    have c5b0 : (a1 == 0) = false := beq_eq_false_iff_ne.mpr c5
    have c5b1 : (a1 != 0) = true := bne_iff_ne.mpr c5
    replace H := Option.bind_eq_some_iff.mp H
    obtain ⟨⟨t107, t108⟩, A220, H⟩ := H
    replace H : ((num_Two.f 1 t107 t104).bind fun bt109 => (if t104 < a1 then (if t104 > (wrap64 (-a1)) then (if bt109.1 = a0 then (if t103 = true then (some false) else (if t105 = true then (some false) else (if t104 ≥ 0 then (if t104 ≤ 0 then ((camshaftlaw01_known.f).bind fun t111 => (some t111)) else (if a0 > 0 then ((camshaftlaw01_known.f).bind fun t112 => (some t112)) else (some false))) else (if a0 < 0 then (if t104 ≤ 0 then ((camshaftlaw01_known.f).bind fun t113 => (some t113)) else (if a0 > 0 then ((camshaftlaw01_known.f).bind fun t114 => (some t114)) else (some false))) else (some false))))) else (some false)) else (if t104 > a1 then (if t104 < (wrap64 (-a1)) then (if bt109.1 = a0 then (if t103 = true then (some false) else (if t105 = true then (some false) else (if t104 ≥ 0 then (if t104 ≤ 0 then ((camshaftlaw01_known.f).bind fun t115 => (some t115)) else (if a0 > 0 then ((camshaftlaw01_known.f).bind fun t116 => (some t116)) else (some false))) else (if a0 < 0 then (if t104 ≤ 0 then ((camshaftlaw01_known.f).bind fun t117 => (some t117)) else (if a0 > 0 then ((camshaftlaw01_known.f).bind fun t118 => (some t118)) else (some false))) else (some false))))) else (some false)) else (if bt109.1 = a0 then (if t103 = true then (some false) else (if t105 = true then (some false) else (if a1 = (-9223372036854775808) then (if t104 ≥ 0 then (if t104 ≤ 0 then ((camshaftlaw01_known.f).bind fun t119 => (some t119)) else (if a0 > 0 then ((camshaftlaw01_known.f).bind fun t120 => (some t120)) else (some false))) else (if a0 < 0 then (if t104 ≤ 0 then ((camshaftlaw01_known.f).bind fun t121 => (some t121)) else (if a0 > 0 then ((camshaftlaw01_known.f).bind fun t122 => (some t122)) else (some false))) else (some false))) else (some false)))) else (some false))) else (if bt109.1 = a0 then (if t103 = true then (some false) else (if t105 = true then (some false) else (if a1 = (-9223372036854775808) then (if t104 ≥ 0 then (if t104 ≤ 0 then ((camshaftlaw01_known.f).bind fun t123 => (some t123)) else (if a0 > 0 then ((camshaftlaw01_known.f).bind fun t124 => (some t124)) else (some false))) else (if a0 < 0 then (if t104 ≤ 0 then ((camshaftlaw01_known.f).bind fun t125 => (some t125)) else (if a0 > 0 then ((camshaftlaw01_known.f).bind fun t126 => (some t126)) else (some false))) else (some false))) else (some false)))) else (some false)))) else (if t104 > a1 then (if t104 < (wrap64 (-a1)) then (if bt109.1 = a0 then (if t103 = true then (some false) else (if t105 = true then (some false) else (if t104 ≥ 0 then (if t104 ≤ 0 then ((camshaftlaw01_known.f).bind fun t127 => (some t127)) else (if a0 > 0 then ((camshaftlaw01_known.f).bind fun t128 => (some t128)) else (some false))) else (if a0 < 0 then (if t104 ≤ 0 then ((camshaftlaw01_known.f).bind fun t129 => (some t129)) else (if a0 > 0 then ((camshaftlaw01_known.f).bind fun t130 => (some t130)) else (some false))) else (some false))))) else (some false)) else (if bt109.1 = a0 then (if t103 = true then (some false) else (if t105 = true then (some false) else (if a1 = (-9223372036854775808) then (if t104 ≥ 0 then (if t104 ≤ 0 then ((camshaftlaw01_known.f).bind fun t131 => (some t131)) else (if a0 > 0 then ((camshaftlaw01_known.f).bind fun t132 => (some t132)) else (some false))) else (if a0 < 0 then (if t104 ≤ 0 then ((camshaftlaw01_known.f).bind fun t133 => (some t133)) else (if a0 > 0 then ((camshaftlaw01_known.f).bind fun t134 => (some t134)) else (some false))) else (some false))) else (some false)))) else (some false))) else (if bt109.1 = a0 then (if t103 = true then (some false) else (if t105 = true then (some false) else (if a1 = (-9223372036854775808) then (if t104 ≥ 0 then (if t104 ≤ 0 then ((camshaftlaw01_known.f).bind fun t135 => (some t135)) else (if a0 > 0 then ((camshaftlaw01_known.f).bind fun t136 => (some t136)) else (some false))) else (if a0 < 0 then (if t104 ≤ 0 then ((camshaftlaw01_known.f).bind fun t137 => (some t137)) else (if a0 > 0 then ((camshaftlaw01_known.f).bind fun t138 => (some t138)) else (some false))) else (some false))) else (some false)))) else (some false))))) = some r := H
    have A22 := Aside0.mk A220
    clear A220
    replace H := Option.bind_eq_some_iff.mp H
    obtain ⟨⟨t109, t110⟩, A230, H⟩ := H
    replace H : (if t104 < a1 then (if t104 > (wrap64 (-a1)) then (if t109 = a0 then (if t103 = true then (some false) else (if t105 = true then (some false) else (if t104 ≥ 0 then (if t104 ≤ 0 then ((camshaftlaw01_known.f).bind fun t111 => (some t111)) else (if a0 > 0 then ((camshaftlaw01_known.f).bind fun t112 => (some t112)) else (some false))) else (if a0 < 0 then (if t104 ≤ 0 then ((camshaftlaw01_known.f).bind fun t113 => (some t113)) else (if a0 > 0 then ((camshaftlaw01_known.f).bind fun t114 => (some t114)) else (some false))) else (some false))))) else (some false)) else (if t104 > a1 then (if t104 < (wrap64 (-a1)) then (if t109 = a0 then (if t103 = true then (some false) else (if t105 = true then (some false) else (if t104 ≥ 0 then (if t104 ≤ 0 then ((camshaftlaw01_known.f).bind fun t115 => (some t115)) else (if a0 > 0 then ((camshaftlaw01_known.f).bind fun t116 => (some t116)) else (some false))) else (if a0 < 0 then (if t104 ≤ 0 then ((camshaftlaw01_known.f).bind fun t117 => (some t117)) else (if a0 > 0 then ((camshaftlaw01_known.f).bind fun t118 => (some t118)) else (some false))) else (some false))))) else (some false)) else (if t109 = a0 then (if t103 = true then (some false) else (if t105 = true then (some false) else (if a1 = (-9223372036854775808) then (if t104 ≥ 0 then (if t104 ≤ 0 then ((camshaftlaw01_known.f).bind fun t119 => (some t119)) else (if a0 > 0 then ((camshaftlaw01_known.f).bind fun t120 => (some t120)) else (some false))) else (if a0 < 0 then (if t104 ≤ 0 then ((camshaftlaw01_known.f).bind fun t121 => (some t121)) else (if a0 > 0 then ((camshaftlaw01_known.f).bind fun t122 => (some t122)) else (some false))) else (some false))) else (some false)))) else (some false))) else (if t109 = a0 then (if t103 = true then (some false) else (if t105 = true then (some false) else (if a1 = (-9223372036854775808) then (if t104 ≥ 0 then (if t104 ≤ 0 then ((camshaftlaw01_known.f).bind fun t123 => (some t123)) else (if a0 > 0 then ((camshaftlaw01_known.f).bind fun t124 => (some t124)) else (some false))) else (if a0 < 0 then (if t104 ≤ 0 then ((camshaftlaw01_known.f).bind fun t125 => (some t125)) else (if a0 > 0 then ((camshaftlaw01_known.f).bind fun t126 => (some t126)) else (some false))) else (some false))) else (some false)))) else (some false)))) else (if t104 > a1 then (if t104 < (wrap64 (-a1)) then (if t109 = a0 then (if t103 = true then (some false) else (if t105 = true then (some false) else (if t104 ≥ 0 then (if t104 ≤ 0 then ((camshaftlaw01_known.f).bind fun t127 => (some t127)) else (if a0 > 0 then ((camshaftlaw01_known.f).bind fun t128 => (some t128)) else (some false))) else (if a0 < 0 then (if t104 ≤ 0 then ((camshaftlaw01_known.f).bind fun t129 => (some t129)) else (if a0 > 0 then ((camshaftlaw01_known.f).bind fun t130 => (some t130)) else (some false))) else (some false))))) else (some false)) else (if t109 = a0 then (if t103 = true then (some false) else (if t105 = true then (some false) else (if a1 = (-9223372036854775808) then (if t104 ≥ 0 then (if t104 ≤ 0 then ((camshaftlaw01_known.f).bind fun t131 => (some t131)) else (if a0 > 0 then ((camshaftlaw01_known.f).bind fun t132 => (some t132)) else (some false))) else (if a0 < 0 then (if t104 ≤ 0 then ((camshaftlaw01_known.f).bind fun t133 => (some t133)) else (if a0 > 0 then ((camshaftlaw01_known.f).bind fun t134 => (some t134)) else (some false))) else (some false))) else (some false)))) else (some false))) else (if t109 = a0 then (if t103 = true then (some false) else (if t105 = true then (some false) else (if a1 = (-9223372036854775808) then (if t104 ≥ 0 then (if t104 ≤ 0 then ((camshaftlaw01_known.f).bind fun t135 => (some t135)) else (if a0 > 0 then ((camshaftlaw01_known.f).bind fun t136 => (some t136)) else (some false))) else (if a0 < 0 then (if t104 ≤ 0 then ((camshaftlaw01_known.f).bind fun t137 => (some t137)) else (if a0 > 0 then ((camshaftlaw01_known.f).bind fun t138 => (some t138)) else (some false))) else (some false))) else (some false)))) else (some false)))) = some r := H
    have A23 := Aside0.mk A230
    clear A230
    by_cases c24 : t104 < a1
    · rw [if_pos c24] at H
      have c24b0 : decide (t104 < a1) = true := decide_eq_true c24
      clear c24
      by_cases c25 : t104 > (wrap64 (-a1))
      · rw [if_pos c25] at H
        have c25b0 : decide ((wrap64 (-a1)) < t104) = true := decide_eq_true c25
        clear c25
        by_cases c26 : t109 = a0
        · rw [if_pos c26] at H
          have c26b0 : (t109 == a0) = true := beq_iff_eq.mpr c26
          have c26b1 : (t109 != a0) = false := bne_eq_false_iff_eq.mpr c26
          clear c26
          by_cases c27 : t103 = true
          · subst c27
            have H1 : (some false) = some r := by rw [if_pos rfl] at H; exact H
            clear H
            have H := H1
            clear H1
            obtain rfl := Option.some.inj H
            cases hr
          · replace c27 := Bool.eq_false_iff.mpr c27
            subst c27
            have H1 : (if t105 = true then (some false) else (if t104 ≥ 0 then (if t104 ≤ 0 then ((camshaftlaw01_known.f).bind fun t111 => (some t111)) else (if a0 > 0 then ((camshaftlaw01_known.f).bind fun t112 => (some t112)) else (some false))) else (if a0 < 0 then (if t104 ≤ 0 then ((camshaftlaw01_known.f).bind fun t113 => (some t113)) else (if a0 > 0 then ((camshaftlaw01_known.f).bind fun t114 => (some t114)) else (some false))) else (some false)))) = some r := by rw [if_neg (show ¬ (false = true) by decide)] at H; exact H
            clear H
            have H := H1
            clear H1
            by_cases c32 : t105 = true
            · subst c32
              have H1 : (some false) = some r := by rw [if_pos rfl] at H; exact H
              clear H
              have H := H1
              clear H1
              obtain rfl := Option.some.inj H
              cases hr
            · replace c32 := Bool.eq_false_iff.mpr c32
              subst c32
              have H1 : (if t104 ≥ 0 then (if t104 ≤ 0 then ((camshaftlaw01_known.f).bind fun t111 => (some t111)) else (if a0 > 0 then ((camshaftlaw01_known.f).bind fun t112 => (some t112)) else (some false))) else (if a0 < 0 then (if t104 ≤ 0 then ((camshaftlaw01_known.f).bind fun t113 => (some t113)) else (if a0 > 0 then ((camshaftlaw01_known.f).bind fun t114 => (some t114)) else (some false))) else (some false))) = some r := by rw [if_neg (show ¬ (false = true) by decide)] at H; exact H
              clear H
              have H := H1
              clear H1
              by_cases c37 : t104 ≥ 0
              · rw [if_pos c37] at H
                have c37b0 : decide (0 ≤ t104) = true := decide_eq_true c37
                clear c37
                by_cases c38 : t104 ≤ 0
                · rw [if_pos c38] at H
                  have c38b0 : decide (t104 ≤ 0) = true := decide_eq_true c38
                  clear c38
                  replace H := Option.bind_eq_some_iff.mp H
                  obtain ⟨t111, A390, H⟩ := H
                  replace H : (some t111) = some r := H
                  have A39 := Aside0.mk A390
                  clear A390
                  obtain rfl := Option.some.inj H
                  go_enter Try.func4, Try.ntmps4
                  go_wp2_with (first | ((with_reducible refine gate_callee (f := 11) rfl ?_); refine goesL_ (some 17) rfl rfl Try.func11 (by kernel_rfl) rfl #[.int .i64 4, .int .i64 a0, .int .i64 a1] rfl (by (try simp only [List.map_toArray, List.map_cons, List.map_nil]); first | done | rfl | (simp only [List.length_drop, List.length_take]; rfl)) ?_; (with_reducible refine (num_Two.calls 4 a0 a1 t102 false _ A3.out).mono ?_); rintro e w40 ⟨rfl, hb⟩; refine ⟨_, rfl, ?_⟩; have n0_ := Aside0.mk (below_step (by repeat (first | (with_reducible first | exact HB.out | apply below_alloc | apply pw_below_drewN | apply below_drew1) | exact HB.out)) hb); clear HB; have HB := n0_; clear n0_ hb) | ((with_reducible refine gate_callee (f := 11) rfl ?_); refine goesL_ (some 23) rfl rfl Try.func11 (by kernel_rfl) rfl #[.int .i64 5, .int .i64 a0, .int .i64 a1] rfl (by (try simp only [List.map_toArray, List.map_cons, List.map_nil]); first | done | rfl | (simp only [List.length_drop, List.length_take]; rfl)) ?_; (with_reducible refine (num_Two.calls 5 a0 a1 t104 false _ A4.out).mono ?_); rintro e w41 ⟨rfl, hb⟩; refine ⟨_, rfl, ?_⟩; have n0_ := Aside0.mk (below_step (by repeat (first | (with_reducible first | exact HB.out | apply below_alloc | apply pw_below_drewN | apply below_drew1) | exact HB.out)) hb); clear HB; have HB := n0_; clear n0_ hb) | ((with_reducible refine gate_callee (f := 11) rfl ?_); refine goesL_ (some 46) rfl rfl Try.func11 (by kernel_rfl) rfl #[.int .i64 3, .int .i64 a1, .int .i64 t102] rfl (by (try simp only [List.map_toArray, List.map_cons, List.map_nil]); first | done | rfl | (simp only [List.length_drop, List.length_take]; rfl)) ?_; (with_reducible refine (num_Two.calls 3 a1 t102 t107 t108 _ A22.out).mono ?_); rintro e w42 ⟨rfl, hb⟩; refine ⟨_, rfl, ?_⟩; have n0_ := Aside0.mk (below_step (by repeat (first | (with_reducible first | exact HB.out | apply below_alloc | apply pw_below_drewN | apply below_drew1) | exact HB.out)) hb); clear HB; have HB := n0_; clear n0_ hb) | ((with_reducible refine gate_callee (f := 11) rfl ?_); refine goesL_ (some 52) rfl rfl Try.func11 (by kernel_rfl) rfl #[.int .i64 1, .int .i64 t107, .int .i64 t104] rfl (by (try simp only [List.map_toArray, List.map_cons, List.map_nil]); first | done | rfl | (simp only [List.length_drop, List.length_take]; rfl)) ?_; (with_reducible refine (num_Two.calls 1 t107 t104 t109 t110 _ A23.out).mono ?_); rintro e w43 ⟨rfl, hb⟩; refine ⟨_, rfl, ?_⟩; have n0_ := Aside0.mk (below_step (by repeat (first | (with_reducible first | exact HB.out | apply below_alloc | apply pw_below_drewN | apply below_drew1) | exact HB.out)) hb); clear HB; have HB := n0_; clear n0_ hb) | (go_at_call 19; (with_reducible refine (camshaftlaw01_known.calls  t111 _ A39.out).mono ?_); rintro e w44 ⟨rfl, hb⟩; have n0_ := Aside0.mk (below_step (by repeat (first | (with_reducible first | exact HB.out | apply below_alloc | apply pw_below_drewN | apply below_drew1) | exact HB.out)) hb); clear HB; have HB := n0_; clear n0_ hb))
                  go_ret
                  exact ⟨by first | rfl | (simp [errW_none, errW_some] <;> rfl) | (simp [*, errW_none, errW_some] <;> rfl), by repeat (first | (with_reducible first | exact HB.out | apply below_alloc | apply pw_below_drewN | apply below_drew1) | exact HB.out)⟩
                · rw [if_neg c38] at H
                  have c38b0 : decide (t104 ≤ 0) = false := decide_eq_false c38
                  clear c38
                  by_cases c45 : a0 > 0
                  · rw [if_pos c45] at H
                    have c45b0 : decide (0 < a0) = true := decide_eq_true c45
                    clear c45
                    replace H := Option.bind_eq_some_iff.mp H
                    obtain ⟨t112, A460, H⟩ := H
                    replace H : (some t112) = some r := H
                    have A46 := Aside0.mk A460
                    clear A460
                    obtain rfl := Option.some.inj H
                    go_enter Try.func4, Try.ntmps4
                    go_wp2_with (first | ((with_reducible refine gate_callee (f := 11) rfl ?_); refine goesL_ (some 17) rfl rfl Try.func11 (by kernel_rfl) rfl #[.int .i64 4, .int .i64 a0, .int .i64 a1] rfl (by (try simp only [List.map_toArray, List.map_cons, List.map_nil]); first | done | rfl | (simp only [List.length_drop, List.length_take]; rfl)) ?_; (with_reducible refine (num_Two.calls 4 a0 a1 t102 false _ A3.out).mono ?_); rintro e w47 ⟨rfl, hb⟩; refine ⟨_, rfl, ?_⟩; have n0_ := Aside0.mk (below_step (by repeat (first | (with_reducible first | exact HB.out | apply below_alloc | apply pw_below_drewN | apply below_drew1) | exact HB.out)) hb); clear HB; have HB := n0_; clear n0_ hb) | ((with_reducible refine gate_callee (f := 11) rfl ?_); refine goesL_ (some 23) rfl rfl Try.func11 (by kernel_rfl) rfl #[.int .i64 5, .int .i64 a0, .int .i64 a1] rfl (by (try simp only [List.map_toArray, List.map_cons, List.map_nil]); first | done | rfl | (simp only [List.length_drop, List.length_take]; rfl)) ?_; (with_reducible refine (num_Two.calls 5 a0 a1 t104 false _ A4.out).mono ?_); rintro e w48 ⟨rfl, hb⟩; refine ⟨_, rfl, ?_⟩; have n0_ := Aside0.mk (below_step (by repeat (first | (with_reducible first | exact HB.out | apply below_alloc | apply pw_below_drewN | apply below_drew1) | exact HB.out)) hb); clear HB; have HB := n0_; clear n0_ hb) | ((with_reducible refine gate_callee (f := 11) rfl ?_); refine goesL_ (some 46) rfl rfl Try.func11 (by kernel_rfl) rfl #[.int .i64 3, .int .i64 a1, .int .i64 t102] rfl (by (try simp only [List.map_toArray, List.map_cons, List.map_nil]); first | done | rfl | (simp only [List.length_drop, List.length_take]; rfl)) ?_; (with_reducible refine (num_Two.calls 3 a1 t102 t107 t108 _ A22.out).mono ?_); rintro e w49 ⟨rfl, hb⟩; refine ⟨_, rfl, ?_⟩; have n0_ := Aside0.mk (below_step (by repeat (first | (with_reducible first | exact HB.out | apply below_alloc | apply pw_below_drewN | apply below_drew1) | exact HB.out)) hb); clear HB; have HB := n0_; clear n0_ hb) | ((with_reducible refine gate_callee (f := 11) rfl ?_); refine goesL_ (some 52) rfl rfl Try.func11 (by kernel_rfl) rfl #[.int .i64 1, .int .i64 t107, .int .i64 t104] rfl (by (try simp only [List.map_toArray, List.map_cons, List.map_nil]); first | done | rfl | (simp only [List.length_drop, List.length_take]; rfl)) ?_; (with_reducible refine (num_Two.calls 1 t107 t104 t109 t110 _ A23.out).mono ?_); rintro e w50 ⟨rfl, hb⟩; refine ⟨_, rfl, ?_⟩; have n0_ := Aside0.mk (below_step (by repeat (first | (with_reducible first | exact HB.out | apply below_alloc | apply pw_below_drewN | apply below_drew1) | exact HB.out)) hb); clear HB; have HB := n0_; clear n0_ hb) | (go_at_call 19; (with_reducible refine (camshaftlaw01_known.calls  t112 _ A46.out).mono ?_); rintro e w51 ⟨rfl, hb⟩; have n0_ := Aside0.mk (below_step (by repeat (first | (with_reducible first | exact HB.out | apply below_alloc | apply pw_below_drewN | apply below_drew1) | exact HB.out)) hb); clear HB; have HB := n0_; clear n0_ hb))
                    go_ret
                    exact ⟨by first | rfl | (simp [errW_none, errW_some] <;> rfl) | (simp [*, errW_none, errW_some] <;> rfl), by repeat (first | (with_reducible first | exact HB.out | apply below_alloc | apply pw_below_drewN | apply below_drew1) | exact HB.out)⟩
                  · rw [if_neg c45] at H
                    have c45b0 : decide (0 < a0) = false := decide_eq_false c45
                    clear c45
                    obtain rfl := Option.some.inj H
                    cases hr
              · rw [if_neg c37] at H
                have c37b0 : decide (0 ≤ t104) = false := decide_eq_false c37
                clear c37
                by_cases c56 : a0 < 0
                · rw [if_pos c56] at H
                  have c56b0 : decide (a0 < 0) = true := decide_eq_true c56
                  clear c56
                  by_cases c57 : t104 ≤ 0
                  · rw [if_pos c57] at H
                    have c57b0 : decide (t104 ≤ 0) = true := decide_eq_true c57
                    clear c57
                    replace H := Option.bind_eq_some_iff.mp H
                    obtain ⟨t113, A580, H⟩ := H
                    replace H : (some t113) = some r := H
                    have A58 := Aside0.mk A580
                    clear A580
                    obtain rfl := Option.some.inj H
                    go_enter Try.func4, Try.ntmps4
                    go_wp2_with (first | ((with_reducible refine gate_callee (f := 11) rfl ?_); refine goesL_ (some 17) rfl rfl Try.func11 (by kernel_rfl) rfl #[.int .i64 4, .int .i64 a0, .int .i64 a1] rfl (by (try simp only [List.map_toArray, List.map_cons, List.map_nil]); first | done | rfl | (simp only [List.length_drop, List.length_take]; rfl)) ?_; (with_reducible refine (num_Two.calls 4 a0 a1 t102 false _ A3.out).mono ?_); rintro e w59 ⟨rfl, hb⟩; refine ⟨_, rfl, ?_⟩; have n0_ := Aside0.mk (below_step (by repeat (first | (with_reducible first | exact HB.out | apply below_alloc | apply pw_below_drewN | apply below_drew1) | exact HB.out)) hb); clear HB; have HB := n0_; clear n0_ hb) | ((with_reducible refine gate_callee (f := 11) rfl ?_); refine goesL_ (some 23) rfl rfl Try.func11 (by kernel_rfl) rfl #[.int .i64 5, .int .i64 a0, .int .i64 a1] rfl (by (try simp only [List.map_toArray, List.map_cons, List.map_nil]); first | done | rfl | (simp only [List.length_drop, List.length_take]; rfl)) ?_; (with_reducible refine (num_Two.calls 5 a0 a1 t104 false _ A4.out).mono ?_); rintro e w60 ⟨rfl, hb⟩; refine ⟨_, rfl, ?_⟩; have n0_ := Aside0.mk (below_step (by repeat (first | (with_reducible first | exact HB.out | apply below_alloc | apply pw_below_drewN | apply below_drew1) | exact HB.out)) hb); clear HB; have HB := n0_; clear n0_ hb) | ((with_reducible refine gate_callee (f := 11) rfl ?_); refine goesL_ (some 46) rfl rfl Try.func11 (by kernel_rfl) rfl #[.int .i64 3, .int .i64 a1, .int .i64 t102] rfl (by (try simp only [List.map_toArray, List.map_cons, List.map_nil]); first | done | rfl | (simp only [List.length_drop, List.length_take]; rfl)) ?_; (with_reducible refine (num_Two.calls 3 a1 t102 t107 t108 _ A22.out).mono ?_); rintro e w61 ⟨rfl, hb⟩; refine ⟨_, rfl, ?_⟩; have n0_ := Aside0.mk (below_step (by repeat (first | (with_reducible first | exact HB.out | apply below_alloc | apply pw_below_drewN | apply below_drew1) | exact HB.out)) hb); clear HB; have HB := n0_; clear n0_ hb) | ((with_reducible refine gate_callee (f := 11) rfl ?_); refine goesL_ (some 52) rfl rfl Try.func11 (by kernel_rfl) rfl #[.int .i64 1, .int .i64 t107, .int .i64 t104] rfl (by (try simp only [List.map_toArray, List.map_cons, List.map_nil]); first | done | rfl | (simp only [List.length_drop, List.length_take]; rfl)) ?_; (with_reducible refine (num_Two.calls 1 t107 t104 t109 t110 _ A23.out).mono ?_); rintro e w62 ⟨rfl, hb⟩; refine ⟨_, rfl, ?_⟩; have n0_ := Aside0.mk (below_step (by repeat (first | (with_reducible first | exact HB.out | apply below_alloc | apply pw_below_drewN | apply below_drew1) | exact HB.out)) hb); clear HB; have HB := n0_; clear n0_ hb) | (go_at_call 19; (with_reducible refine (camshaftlaw01_known.calls  t113 _ A58.out).mono ?_); rintro e w63 ⟨rfl, hb⟩; have n0_ := Aside0.mk (below_step (by repeat (first | (with_reducible first | exact HB.out | apply below_alloc | apply pw_below_drewN | apply below_drew1) | exact HB.out)) hb); clear HB; have HB := n0_; clear n0_ hb))
                    go_ret
                    exact ⟨by first | rfl | (simp [errW_none, errW_some] <;> rfl) | (simp [*, errW_none, errW_some] <;> rfl), by repeat (first | (with_reducible first | exact HB.out | apply below_alloc | apply pw_below_drewN | apply below_drew1) | exact HB.out)⟩
                  · rw [if_neg c57] at H
                    have c57b0 : decide (t104 ≤ 0) = false := decide_eq_false c57
                    clear c57
                    by_cases c64 : a0 > 0
                    · rw [if_pos c64] at H
                      have c64b0 : decide (0 < a0) = true := decide_eq_true c64
                      clear c64
                      replace H := Option.bind_eq_some_iff.mp H
                      obtain ⟨t114, A650, H⟩ := H
                      replace H : (some t114) = some r := H
                      have A65 := Aside0.mk A650
                      clear A650
                      obtain rfl := Option.some.inj H
                      go_enter Try.func4, Try.ntmps4
                      go_wp2_with (first | ((with_reducible refine gate_callee (f := 11) rfl ?_); refine goesL_ (some 17) rfl rfl Try.func11 (by kernel_rfl) rfl #[.int .i64 4, .int .i64 a0, .int .i64 a1] rfl (by (try simp only [List.map_toArray, List.map_cons, List.map_nil]); first | done | rfl | (simp only [List.length_drop, List.length_take]; rfl)) ?_; (with_reducible refine (num_Two.calls 4 a0 a1 t102 false _ A3.out).mono ?_); rintro e w66 ⟨rfl, hb⟩; refine ⟨_, rfl, ?_⟩; have n0_ := Aside0.mk (below_step (by repeat (first | (with_reducible first | exact HB.out | apply below_alloc | apply pw_below_drewN | apply below_drew1) | exact HB.out)) hb); clear HB; have HB := n0_; clear n0_ hb) | ((with_reducible refine gate_callee (f := 11) rfl ?_); refine goesL_ (some 23) rfl rfl Try.func11 (by kernel_rfl) rfl #[.int .i64 5, .int .i64 a0, .int .i64 a1] rfl (by (try simp only [List.map_toArray, List.map_cons, List.map_nil]); first | done | rfl | (simp only [List.length_drop, List.length_take]; rfl)) ?_; (with_reducible refine (num_Two.calls 5 a0 a1 t104 false _ A4.out).mono ?_); rintro e w67 ⟨rfl, hb⟩; refine ⟨_, rfl, ?_⟩; have n0_ := Aside0.mk (below_step (by repeat (first | (with_reducible first | exact HB.out | apply below_alloc | apply pw_below_drewN | apply below_drew1) | exact HB.out)) hb); clear HB; have HB := n0_; clear n0_ hb) | ((with_reducible refine gate_callee (f := 11) rfl ?_); refine goesL_ (some 46) rfl rfl Try.func11 (by kernel_rfl) rfl #[.int .i64 3, .int .i64 a1, .int .i64 t102] rfl (by (try simp only [List.map_toArray, List.map_cons, List.map_nil]); first | done | rfl | (simp only [List.length_drop, List.length_take]; rfl)) ?_; (with_reducible refine (num_Two.calls 3 a1 t102 t107 t108 _ A22.out).mono ?_); rintro e w68 ⟨rfl, hb⟩; refine ⟨_, rfl, ?_⟩; have n0_ := Aside0.mk (below_step (by repeat (first | (with_reducible first | exact HB.out | apply below_alloc | apply pw_below_drewN | apply below_drew1) | exact HB.out)) hb); clear HB; have HB := n0_; clear n0_ hb) | ((with_reducible refine gate_callee (f := 11) rfl ?_); refine goesL_ (some 52) rfl rfl Try.func11 (by kernel_rfl) rfl #[.int .i64 1, .int .i64 t107, .int .i64 t104] rfl (by (try simp only [List.map_toArray, List.map_cons, List.map_nil]); first | done | rfl | (simp only [List.length_drop, List.length_take]; rfl)) ?_; (with_reducible refine (num_Two.calls 1 t107 t104 t109 t110 _ A23.out).mono ?_); rintro e w69 ⟨rfl, hb⟩; refine ⟨_, rfl, ?_⟩; have n0_ := Aside0.mk (below_step (by repeat (first | (with_reducible first | exact HB.out | apply below_alloc | apply pw_below_drewN | apply below_drew1) | exact HB.out)) hb); clear HB; have HB := n0_; clear n0_ hb) | (go_at_call 19; (with_reducible refine (camshaftlaw01_known.calls  t114 _ A65.out).mono ?_); rintro e w70 ⟨rfl, hb⟩; have n0_ := Aside0.mk (below_step (by repeat (first | (with_reducible first | exact HB.out | apply below_alloc | apply pw_below_drewN | apply below_drew1) | exact HB.out)) hb); clear HB; have HB := n0_; clear n0_ hb))
                      go_ret
                      exact ⟨by first | rfl | (simp [errW_none, errW_some] <;> rfl) | (simp [*, errW_none, errW_some] <;> rfl), by repeat (first | (with_reducible first | exact HB.out | apply below_alloc | apply pw_below_drewN | apply below_drew1) | exact HB.out)⟩
                    · rw [if_neg c64] at H
                      have c64b0 : decide (0 < a0) = false := decide_eq_false c64
                      clear c64
                      obtain rfl := Option.some.inj H
                      cases hr
                · rw [if_neg c56] at H
                  have c56b0 : decide (a0 < 0) = false := decide_eq_false c56
                  clear c56
                  obtain rfl := Option.some.inj H
                  cases hr
        · rw [if_neg c26] at H
          have c26b0 : (t109 == a0) = false := beq_eq_false_iff_ne.mpr c26
          have c26b1 : (t109 != a0) = true := bne_iff_ne.mpr c26
          obtain rfl := Option.some.inj H
          cases hr
      · rw [if_neg c25] at H
        have c25b0 : decide ((wrap64 (-a1)) < t104) = false := decide_eq_false c25
        clear c25
        by_cases c83 : t104 > a1
        · rw [if_pos c83] at H
          have c83b0 : decide (a1 < t104) = true := decide_eq_true c83
          clear c83
          by_cases c84 : t104 < (wrap64 (-a1))
          · rw [if_pos c84] at H
            have c84b0 : decide (t104 < (wrap64 (-a1))) = true := decide_eq_true c84
            clear c84
            by_cases c85 : t109 = a0
            · rw [if_pos c85] at H
              have c85b0 : (t109 == a0) = true := beq_iff_eq.mpr c85
              have c85b1 : (t109 != a0) = false := bne_eq_false_iff_eq.mpr c85
              clear c85
              by_cases c86 : t103 = true
              · subst c86
                have H1 : (some false) = some r := by rw [if_pos rfl] at H; exact H
                clear H
                have H := H1
                clear H1
                obtain rfl := Option.some.inj H
                cases hr
              · replace c86 := Bool.eq_false_iff.mpr c86
                subst c86
                have H1 : (if t105 = true then (some false) else (if t104 ≥ 0 then (if t104 ≤ 0 then ((camshaftlaw01_known.f).bind fun t115 => (some t115)) else (if a0 > 0 then ((camshaftlaw01_known.f).bind fun t116 => (some t116)) else (some false))) else (if a0 < 0 then (if t104 ≤ 0 then ((camshaftlaw01_known.f).bind fun t117 => (some t117)) else (if a0 > 0 then ((camshaftlaw01_known.f).bind fun t118 => (some t118)) else (some false))) else (some false)))) = some r := by rw [if_neg (show ¬ (false = true) by decide)] at H; exact H
                clear H
                have H := H1
                clear H1
                by_cases c91 : t105 = true
                · subst c91
                  have H1 : (some false) = some r := by rw [if_pos rfl] at H; exact H
                  clear H
                  have H := H1
                  clear H1
                  obtain rfl := Option.some.inj H
                  cases hr
                · replace c91 := Bool.eq_false_iff.mpr c91
                  subst c91
                  have H1 : (if t104 ≥ 0 then (if t104 ≤ 0 then ((camshaftlaw01_known.f).bind fun t115 => (some t115)) else (if a0 > 0 then ((camshaftlaw01_known.f).bind fun t116 => (some t116)) else (some false))) else (if a0 < 0 then (if t104 ≤ 0 then ((camshaftlaw01_known.f).bind fun t117 => (some t117)) else (if a0 > 0 then ((camshaftlaw01_known.f).bind fun t118 => (some t118)) else (some false))) else (some false))) = some r := by rw [if_neg (show ¬ (false = true) by decide)] at H; exact H
                  clear H
                  have H := H1
                  clear H1
                  by_cases c96 : t104 ≥ 0
                  · rw [if_pos c96] at H
                    have c96b0 : decide (0 ≤ t104) = true := decide_eq_true c96
                    clear c96
                    by_cases c97 : t104 ≤ 0
                    · rw [if_pos c97] at H
                      have c97b0 : decide (t104 ≤ 0) = true := decide_eq_true c97
                      clear c97
                      replace H := Option.bind_eq_some_iff.mp H
                      obtain ⟨t115, A980, H⟩ := H
                      replace H : (some t115) = some r := H
                      have A98 := Aside0.mk A980
                      clear A980
                      obtain rfl := Option.some.inj H
                      go_enter Try.func4, Try.ntmps4
                      go_wp2_with (first | ((with_reducible refine gate_callee (f := 11) rfl ?_); refine goesL_ (some 17) rfl rfl Try.func11 (by kernel_rfl) rfl #[.int .i64 4, .int .i64 a0, .int .i64 a1] rfl (by (try simp only [List.map_toArray, List.map_cons, List.map_nil]); first | done | rfl | (simp only [List.length_drop, List.length_take]; rfl)) ?_; (with_reducible refine (num_Two.calls 4 a0 a1 t102 false _ A3.out).mono ?_); rintro e w99 ⟨rfl, hb⟩; refine ⟨_, rfl, ?_⟩; have n0_ := Aside0.mk (below_step (by repeat (first | (with_reducible first | exact HB.out | apply below_alloc | apply pw_below_drewN | apply below_drew1) | exact HB.out)) hb); clear HB; have HB := n0_; clear n0_ hb) | ((with_reducible refine gate_callee (f := 11) rfl ?_); refine goesL_ (some 23) rfl rfl Try.func11 (by kernel_rfl) rfl #[.int .i64 5, .int .i64 a0, .int .i64 a1] rfl (by (try simp only [List.map_toArray, List.map_cons, List.map_nil]); first | done | rfl | (simp only [List.length_drop, List.length_take]; rfl)) ?_; (with_reducible refine (num_Two.calls 5 a0 a1 t104 false _ A4.out).mono ?_); rintro e w100 ⟨rfl, hb⟩; refine ⟨_, rfl, ?_⟩; have n0_ := Aside0.mk (below_step (by repeat (first | (with_reducible first | exact HB.out | apply below_alloc | apply pw_below_drewN | apply below_drew1) | exact HB.out)) hb); clear HB; have HB := n0_; clear n0_ hb) | ((with_reducible refine gate_callee (f := 11) rfl ?_); refine goesL_ (some 46) rfl rfl Try.func11 (by kernel_rfl) rfl #[.int .i64 3, .int .i64 a1, .int .i64 t102] rfl (by (try simp only [List.map_toArray, List.map_cons, List.map_nil]); first | done | rfl | (simp only [List.length_drop, List.length_take]; rfl)) ?_; (with_reducible refine (num_Two.calls 3 a1 t102 t107 t108 _ A22.out).mono ?_); rintro e w101 ⟨rfl, hb⟩; refine ⟨_, rfl, ?_⟩; have n0_ := Aside0.mk (below_step (by repeat (first | (with_reducible first | exact HB.out | apply below_alloc | apply pw_below_drewN | apply below_drew1) | exact HB.out)) hb); clear HB; have HB := n0_; clear n0_ hb) | ((with_reducible refine gate_callee (f := 11) rfl ?_); refine goesL_ (some 52) rfl rfl Try.func11 (by kernel_rfl) rfl #[.int .i64 1, .int .i64 t107, .int .i64 t104] rfl (by (try simp only [List.map_toArray, List.map_cons, List.map_nil]); first | done | rfl | (simp only [List.length_drop, List.length_take]; rfl)) ?_; (with_reducible refine (num_Two.calls 1 t107 t104 t109 t110 _ A23.out).mono ?_); rintro e w102 ⟨rfl, hb⟩; refine ⟨_, rfl, ?_⟩; have n0_ := Aside0.mk (below_step (by repeat (first | (with_reducible first | exact HB.out | apply below_alloc | apply pw_below_drewN | apply below_drew1) | exact HB.out)) hb); clear HB; have HB := n0_; clear n0_ hb) | (go_at_call 19; (with_reducible refine (camshaftlaw01_known.calls  t115 _ A98.out).mono ?_); rintro e w103 ⟨rfl, hb⟩; have n0_ := Aside0.mk (below_step (by repeat (first | (with_reducible first | exact HB.out | apply below_alloc | apply pw_below_drewN | apply below_drew1) | exact HB.out)) hb); clear HB; have HB := n0_; clear n0_ hb))
                      go_ret
                      exact ⟨by first | rfl | (simp [errW_none, errW_some] <;> rfl) | (simp [*, errW_none, errW_some] <;> rfl), by repeat (first | (with_reducible first | exact HB.out | apply below_alloc | apply pw_below_drewN | apply below_drew1) | exact HB.out)⟩
                    · rw [if_neg c97] at H
                      have c97b0 : decide (t104 ≤ 0) = false := decide_eq_false c97
                      clear c97
                      by_cases c104 : a0 > 0
                      · rw [if_pos c104] at H
                        have c104b0 : decide (0 < a0) = true := decide_eq_true c104
                        clear c104
                        replace H := Option.bind_eq_some_iff.mp H
                        obtain ⟨t116, A1050, H⟩ := H
                        replace H : (some t116) = some r := H
                        have A105 := Aside0.mk A1050
                        clear A1050
                        obtain rfl := Option.some.inj H
                        go_enter Try.func4, Try.ntmps4
                        go_wp2_with (first | ((with_reducible refine gate_callee (f := 11) rfl ?_); refine goesL_ (some 17) rfl rfl Try.func11 (by kernel_rfl) rfl #[.int .i64 4, .int .i64 a0, .int .i64 a1] rfl (by (try simp only [List.map_toArray, List.map_cons, List.map_nil]); first | done | rfl | (simp only [List.length_drop, List.length_take]; rfl)) ?_; (with_reducible refine (num_Two.calls 4 a0 a1 t102 false _ A3.out).mono ?_); rintro e w106 ⟨rfl, hb⟩; refine ⟨_, rfl, ?_⟩; have n0_ := Aside0.mk (below_step (by repeat (first | (with_reducible first | exact HB.out | apply below_alloc | apply pw_below_drewN | apply below_drew1) | exact HB.out)) hb); clear HB; have HB := n0_; clear n0_ hb) | ((with_reducible refine gate_callee (f := 11) rfl ?_); refine goesL_ (some 23) rfl rfl Try.func11 (by kernel_rfl) rfl #[.int .i64 5, .int .i64 a0, .int .i64 a1] rfl (by (try simp only [List.map_toArray, List.map_cons, List.map_nil]); first | done | rfl | (simp only [List.length_drop, List.length_take]; rfl)) ?_; (with_reducible refine (num_Two.calls 5 a0 a1 t104 false _ A4.out).mono ?_); rintro e w107 ⟨rfl, hb⟩; refine ⟨_, rfl, ?_⟩; have n0_ := Aside0.mk (below_step (by repeat (first | (with_reducible first | exact HB.out | apply below_alloc | apply pw_below_drewN | apply below_drew1) | exact HB.out)) hb); clear HB; have HB := n0_; clear n0_ hb) | ((with_reducible refine gate_callee (f := 11) rfl ?_); refine goesL_ (some 46) rfl rfl Try.func11 (by kernel_rfl) rfl #[.int .i64 3, .int .i64 a1, .int .i64 t102] rfl (by (try simp only [List.map_toArray, List.map_cons, List.map_nil]); first | done | rfl | (simp only [List.length_drop, List.length_take]; rfl)) ?_; (with_reducible refine (num_Two.calls 3 a1 t102 t107 t108 _ A22.out).mono ?_); rintro e w108 ⟨rfl, hb⟩; refine ⟨_, rfl, ?_⟩; have n0_ := Aside0.mk (below_step (by repeat (first | (with_reducible first | exact HB.out | apply below_alloc | apply pw_below_drewN | apply below_drew1) | exact HB.out)) hb); clear HB; have HB := n0_; clear n0_ hb) | ((with_reducible refine gate_callee (f := 11) rfl ?_); refine goesL_ (some 52) rfl rfl Try.func11 (by kernel_rfl) rfl #[.int .i64 1, .int .i64 t107, .int .i64 t104] rfl (by (try simp only [List.map_toArray, List.map_cons, List.map_nil]); first | done | rfl | (simp only [List.length_drop, List.length_take]; rfl)) ?_; (with_reducible refine (num_Two.calls 1 t107 t104 t109 t110 _ A23.out).mono ?_); rintro e w109 ⟨rfl, hb⟩; refine ⟨_, rfl, ?_⟩; have n0_ := Aside0.mk (below_step (by repeat (first | (with_reducible first | exact HB.out | apply below_alloc | apply pw_below_drewN | apply below_drew1) | exact HB.out)) hb); clear HB; have HB := n0_; clear n0_ hb) | (go_at_call 19; (with_reducible refine (camshaftlaw01_known.calls  t116 _ A105.out).mono ?_); rintro e w110 ⟨rfl, hb⟩; have n0_ := Aside0.mk (below_step (by repeat (first | (with_reducible first | exact HB.out | apply below_alloc | apply pw_below_drewN | apply below_drew1) | exact HB.out)) hb); clear HB; have HB := n0_; clear n0_ hb))
                        go_ret
                        exact ⟨by first | rfl | (simp [errW_none, errW_some] <;> rfl) | (simp [*, errW_none, errW_some] <;> rfl), by repeat (first | (with_reducible first | exact HB.out | apply below_alloc | apply pw_below_drewN | apply below_drew1) | exact HB.out)⟩
                      · rw [if_neg c104] at H
                        have c104b0 : decide (0 < a0) = false := decide_eq_false c104
                        clear c104
                        obtain rfl := Option.some.inj H
                        cases hr
                  · rw [if_neg c96] at H
                    have c96b0 : decide (0 ≤ t104) = false := decide_eq_false c96
                    clear c96
                    by_cases c115 : a0 < 0
                    · rw [if_pos c115] at H
                      have c115b0 : decide (a0 < 0) = true := decide_eq_true c115
                      clear c115
                      by_cases c116 : t104 ≤ 0
                      · rw [if_pos c116] at H
                        have c116b0 : decide (t104 ≤ 0) = true := decide_eq_true c116
                        clear c116
                        replace H := Option.bind_eq_some_iff.mp H
                        obtain ⟨t117, A1170, H⟩ := H
                        replace H : (some t117) = some r := H
                        have A117 := Aside0.mk A1170
                        clear A1170
                        obtain rfl := Option.some.inj H
                        go_enter Try.func4, Try.ntmps4
                        go_wp2_with (first | ((with_reducible refine gate_callee (f := 11) rfl ?_); refine goesL_ (some 17) rfl rfl Try.func11 (by kernel_rfl) rfl #[.int .i64 4, .int .i64 a0, .int .i64 a1] rfl (by (try simp only [List.map_toArray, List.map_cons, List.map_nil]); first | done | rfl | (simp only [List.length_drop, List.length_take]; rfl)) ?_; (with_reducible refine (num_Two.calls 4 a0 a1 t102 false _ A3.out).mono ?_); rintro e w118 ⟨rfl, hb⟩; refine ⟨_, rfl, ?_⟩; have n0_ := Aside0.mk (below_step (by repeat (first | (with_reducible first | exact HB.out | apply below_alloc | apply pw_below_drewN | apply below_drew1) | exact HB.out)) hb); clear HB; have HB := n0_; clear n0_ hb) | ((with_reducible refine gate_callee (f := 11) rfl ?_); refine goesL_ (some 23) rfl rfl Try.func11 (by kernel_rfl) rfl #[.int .i64 5, .int .i64 a0, .int .i64 a1] rfl (by (try simp only [List.map_toArray, List.map_cons, List.map_nil]); first | done | rfl | (simp only [List.length_drop, List.length_take]; rfl)) ?_; (with_reducible refine (num_Two.calls 5 a0 a1 t104 false _ A4.out).mono ?_); rintro e w119 ⟨rfl, hb⟩; refine ⟨_, rfl, ?_⟩; have n0_ := Aside0.mk (below_step (by repeat (first | (with_reducible first | exact HB.out | apply below_alloc | apply pw_below_drewN | apply below_drew1) | exact HB.out)) hb); clear HB; have HB := n0_; clear n0_ hb) | ((with_reducible refine gate_callee (f := 11) rfl ?_); refine goesL_ (some 46) rfl rfl Try.func11 (by kernel_rfl) rfl #[.int .i64 3, .int .i64 a1, .int .i64 t102] rfl (by (try simp only [List.map_toArray, List.map_cons, List.map_nil]); first | done | rfl | (simp only [List.length_drop, List.length_take]; rfl)) ?_; (with_reducible refine (num_Two.calls 3 a1 t102 t107 t108 _ A22.out).mono ?_); rintro e w120 ⟨rfl, hb⟩; refine ⟨_, rfl, ?_⟩; have n0_ := Aside0.mk (below_step (by repeat (first | (with_reducible first | exact HB.out | apply below_alloc | apply pw_below_drewN | apply below_drew1) | exact HB.out)) hb); clear HB; have HB := n0_; clear n0_ hb) | ((with_reducible refine gate_callee (f := 11) rfl ?_); refine goesL_ (some 52) rfl rfl Try.func11 (by kernel_rfl) rfl #[.int .i64 1, .int .i64 t107, .int .i64 t104] rfl (by (try simp only [List.map_toArray, List.map_cons, List.map_nil]); first | done | rfl | (simp only [List.length_drop, List.length_take]; rfl)) ?_; (with_reducible refine (num_Two.calls 1 t107 t104 t109 t110 _ A23.out).mono ?_); rintro e w121 ⟨rfl, hb⟩; refine ⟨_, rfl, ?_⟩; have n0_ := Aside0.mk (below_step (by repeat (first | (with_reducible first | exact HB.out | apply below_alloc | apply pw_below_drewN | apply below_drew1) | exact HB.out)) hb); clear HB; have HB := n0_; clear n0_ hb) | (go_at_call 19; (with_reducible refine (camshaftlaw01_known.calls  t117 _ A117.out).mono ?_); rintro e w122 ⟨rfl, hb⟩; have n0_ := Aside0.mk (below_step (by repeat (first | (with_reducible first | exact HB.out | apply below_alloc | apply pw_below_drewN | apply below_drew1) | exact HB.out)) hb); clear HB; have HB := n0_; clear n0_ hb))
                        go_ret
                        exact ⟨by first | rfl | (simp [errW_none, errW_some] <;> rfl) | (simp [*, errW_none, errW_some] <;> rfl), by repeat (first | (with_reducible first | exact HB.out | apply below_alloc | apply pw_below_drewN | apply below_drew1) | exact HB.out)⟩
                      · rw [if_neg c116] at H
                        have c116b0 : decide (t104 ≤ 0) = false := decide_eq_false c116
                        clear c116
                        by_cases c123 : a0 > 0
                        · rw [if_pos c123] at H
                          have c123b0 : decide (0 < a0) = true := decide_eq_true c123
                          clear c123
                          replace H := Option.bind_eq_some_iff.mp H
                          obtain ⟨t118, A1240, H⟩ := H
                          replace H : (some t118) = some r := H
                          have A124 := Aside0.mk A1240
                          clear A1240
                          obtain rfl := Option.some.inj H
                          go_enter Try.func4, Try.ntmps4
                          go_wp2_with (first | ((with_reducible refine gate_callee (f := 11) rfl ?_); refine goesL_ (some 17) rfl rfl Try.func11 (by kernel_rfl) rfl #[.int .i64 4, .int .i64 a0, .int .i64 a1] rfl (by (try simp only [List.map_toArray, List.map_cons, List.map_nil]); first | done | rfl | (simp only [List.length_drop, List.length_take]; rfl)) ?_; (with_reducible refine (num_Two.calls 4 a0 a1 t102 false _ A3.out).mono ?_); rintro e w125 ⟨rfl, hb⟩; refine ⟨_, rfl, ?_⟩; have n0_ := Aside0.mk (below_step (by repeat (first | (with_reducible first | exact HB.out | apply below_alloc | apply pw_below_drewN | apply below_drew1) | exact HB.out)) hb); clear HB; have HB := n0_; clear n0_ hb) | ((with_reducible refine gate_callee (f := 11) rfl ?_); refine goesL_ (some 23) rfl rfl Try.func11 (by kernel_rfl) rfl #[.int .i64 5, .int .i64 a0, .int .i64 a1] rfl (by (try simp only [List.map_toArray, List.map_cons, List.map_nil]); first | done | rfl | (simp only [List.length_drop, List.length_take]; rfl)) ?_; (with_reducible refine (num_Two.calls 5 a0 a1 t104 false _ A4.out).mono ?_); rintro e w126 ⟨rfl, hb⟩; refine ⟨_, rfl, ?_⟩; have n0_ := Aside0.mk (below_step (by repeat (first | (with_reducible first | exact HB.out | apply below_alloc | apply pw_below_drewN | apply below_drew1) | exact HB.out)) hb); clear HB; have HB := n0_; clear n0_ hb) | ((with_reducible refine gate_callee (f := 11) rfl ?_); refine goesL_ (some 46) rfl rfl Try.func11 (by kernel_rfl) rfl #[.int .i64 3, .int .i64 a1, .int .i64 t102] rfl (by (try simp only [List.map_toArray, List.map_cons, List.map_nil]); first | done | rfl | (simp only [List.length_drop, List.length_take]; rfl)) ?_; (with_reducible refine (num_Two.calls 3 a1 t102 t107 t108 _ A22.out).mono ?_); rintro e w127 ⟨rfl, hb⟩; refine ⟨_, rfl, ?_⟩; have n0_ := Aside0.mk (below_step (by repeat (first | (with_reducible first | exact HB.out | apply below_alloc | apply pw_below_drewN | apply below_drew1) | exact HB.out)) hb); clear HB; have HB := n0_; clear n0_ hb) | ((with_reducible refine gate_callee (f := 11) rfl ?_); refine goesL_ (some 52) rfl rfl Try.func11 (by kernel_rfl) rfl #[.int .i64 1, .int .i64 t107, .int .i64 t104] rfl (by (try simp only [List.map_toArray, List.map_cons, List.map_nil]); first | done | rfl | (simp only [List.length_drop, List.length_take]; rfl)) ?_; (with_reducible refine (num_Two.calls 1 t107 t104 t109 t110 _ A23.out).mono ?_); rintro e w128 ⟨rfl, hb⟩; refine ⟨_, rfl, ?_⟩; have n0_ := Aside0.mk (below_step (by repeat (first | (with_reducible first | exact HB.out | apply below_alloc | apply pw_below_drewN | apply below_drew1) | exact HB.out)) hb); clear HB; have HB := n0_; clear n0_ hb) | (go_at_call 19; (with_reducible refine (camshaftlaw01_known.calls  t118 _ A124.out).mono ?_); rintro e w129 ⟨rfl, hb⟩; have n0_ := Aside0.mk (below_step (by repeat (first | (with_reducible first | exact HB.out | apply below_alloc | apply pw_below_drewN | apply below_drew1) | exact HB.out)) hb); clear HB; have HB := n0_; clear n0_ hb))
                          go_ret
                          exact ⟨by first | rfl | (simp [errW_none, errW_some] <;> rfl) | (simp [*, errW_none, errW_some] <;> rfl), by repeat (first | (with_reducible first | exact HB.out | apply below_alloc | apply pw_below_drewN | apply below_drew1) | exact HB.out)⟩
                        · rw [if_neg c123] at H
                          have c123b0 : decide (0 < a0) = false := decide_eq_false c123
                          clear c123
                          obtain rfl := Option.some.inj H
                          cases hr
                    · rw [if_neg c115] at H
                      have c115b0 : decide (a0 < 0) = false := decide_eq_false c115
                      clear c115
                      obtain rfl := Option.some.inj H
                      cases hr
            · rw [if_neg c85] at H
              have c85b0 : (t109 == a0) = false := beq_eq_false_iff_ne.mpr c85
              have c85b1 : (t109 != a0) = true := bne_iff_ne.mpr c85
              obtain rfl := Option.some.inj H
              cases hr
          · rw [if_neg c84] at H
            have c84b0 : decide (t104 < (wrap64 (-a1))) = false := decide_eq_false c84
            clear c84
            by_cases c142 : t109 = a0
            · rw [if_pos c142] at H
              have c142b0 : (t109 == a0) = true := beq_iff_eq.mpr c142
              have c142b1 : (t109 != a0) = false := bne_eq_false_iff_eq.mpr c142
              clear c142
              by_cases c143 : t103 = true
              · subst c143
                have H1 : (some false) = some r := by rw [if_pos rfl] at H; exact H
                clear H
                have H := H1
                clear H1
                obtain rfl := Option.some.inj H
                cases hr
              · replace c143 := Bool.eq_false_iff.mpr c143
                subst c143
                have H1 : (if t105 = true then (some false) else (if a1 = (-9223372036854775808) then (if t104 ≥ 0 then (if t104 ≤ 0 then ((camshaftlaw01_known.f).bind fun t119 => (some t119)) else (if a0 > 0 then ((camshaftlaw01_known.f).bind fun t120 => (some t120)) else (some false))) else (if a0 < 0 then (if t104 ≤ 0 then ((camshaftlaw01_known.f).bind fun t121 => (some t121)) else (if a0 > 0 then ((camshaftlaw01_known.f).bind fun t122 => (some t122)) else (some false))) else (some false))) else (some false))) = some r := by rw [if_neg (show ¬ (false = true) by decide)] at H; exact H
                clear H
                have H := H1
                clear H1
                by_cases c148 : t105 = true
                · subst c148
                  have H1 : (some false) = some r := by rw [if_pos rfl] at H; exact H
                  clear H
                  have H := H1
                  clear H1
                  obtain rfl := Option.some.inj H
                  cases hr
                · replace c148 := Bool.eq_false_iff.mpr c148
                  subst c148
                  have H1 : (if a1 = (-9223372036854775808) then (if t104 ≥ 0 then (if t104 ≤ 0 then ((camshaftlaw01_known.f).bind fun t119 => (some t119)) else (if a0 > 0 then ((camshaftlaw01_known.f).bind fun t120 => (some t120)) else (some false))) else (if a0 < 0 then (if t104 ≤ 0 then ((camshaftlaw01_known.f).bind fun t121 => (some t121)) else (if a0 > 0 then ((camshaftlaw01_known.f).bind fun t122 => (some t122)) else (some false))) else (some false))) else (some false)) = some r := by rw [if_neg (show ¬ (false = true) by decide)] at H; exact H
                  clear H
                  have H := H1
                  clear H1
                  by_cases c153 : a1 = (-9223372036854775808)
                  · rw [if_pos c153] at H
                    have c153b0 : (a1 == (-9223372036854775808)) = true := beq_iff_eq.mpr c153
                    have c153b1 : (a1 != (-9223372036854775808)) = false := bne_eq_false_iff_eq.mpr c153
                    clear c153
                    by_cases c154 : t104 ≥ 0
                    · rw [if_pos c154] at H
                      have c154b0 : decide (0 ≤ t104) = true := decide_eq_true c154
                      clear c154
                      by_cases c155 : t104 ≤ 0
                      · rw [if_pos c155] at H
                        have c155b0 : decide (t104 ≤ 0) = true := decide_eq_true c155
                        clear c155
                        replace H := Option.bind_eq_some_iff.mp H
                        obtain ⟨t119, A1560, H⟩ := H
                        replace H : (some t119) = some r := H
                        have A156 := Aside0.mk A1560
                        clear A1560
                        obtain rfl := Option.some.inj H
                        go_enter Try.func4, Try.ntmps4
                        go_wp2_with (first | ((with_reducible refine gate_callee (f := 11) rfl ?_); refine goesL_ (some 17) rfl rfl Try.func11 (by kernel_rfl) rfl #[.int .i64 4, .int .i64 a0, .int .i64 a1] rfl (by (try simp only [List.map_toArray, List.map_cons, List.map_nil]); first | done | rfl | (simp only [List.length_drop, List.length_take]; rfl)) ?_; (with_reducible refine (num_Two.calls 4 a0 a1 t102 false _ A3.out).mono ?_); rintro e w157 ⟨rfl, hb⟩; refine ⟨_, rfl, ?_⟩; have n0_ := Aside0.mk (below_step (by repeat (first | (with_reducible first | exact HB.out | apply below_alloc | apply pw_below_drewN | apply below_drew1) | exact HB.out)) hb); clear HB; have HB := n0_; clear n0_ hb) | ((with_reducible refine gate_callee (f := 11) rfl ?_); refine goesL_ (some 23) rfl rfl Try.func11 (by kernel_rfl) rfl #[.int .i64 5, .int .i64 a0, .int .i64 a1] rfl (by (try simp only [List.map_toArray, List.map_cons, List.map_nil]); first | done | rfl | (simp only [List.length_drop, List.length_take]; rfl)) ?_; (with_reducible refine (num_Two.calls 5 a0 a1 t104 false _ A4.out).mono ?_); rintro e w158 ⟨rfl, hb⟩; refine ⟨_, rfl, ?_⟩; have n0_ := Aside0.mk (below_step (by repeat (first | (with_reducible first | exact HB.out | apply below_alloc | apply pw_below_drewN | apply below_drew1) | exact HB.out)) hb); clear HB; have HB := n0_; clear n0_ hb) | ((with_reducible refine gate_callee (f := 11) rfl ?_); refine goesL_ (some 46) rfl rfl Try.func11 (by kernel_rfl) rfl #[.int .i64 3, .int .i64 a1, .int .i64 t102] rfl (by (try simp only [List.map_toArray, List.map_cons, List.map_nil]); first | done | rfl | (simp only [List.length_drop, List.length_take]; rfl)) ?_; (with_reducible refine (num_Two.calls 3 a1 t102 t107 t108 _ A22.out).mono ?_); rintro e w159 ⟨rfl, hb⟩; refine ⟨_, rfl, ?_⟩; have n0_ := Aside0.mk (below_step (by repeat (first | (with_reducible first | exact HB.out | apply below_alloc | apply pw_below_drewN | apply below_drew1) | exact HB.out)) hb); clear HB; have HB := n0_; clear n0_ hb) | ((with_reducible refine gate_callee (f := 11) rfl ?_); refine goesL_ (some 52) rfl rfl Try.func11 (by kernel_rfl) rfl #[.int .i64 1, .int .i64 t107, .int .i64 t104] rfl (by (try simp only [List.map_toArray, List.map_cons, List.map_nil]); first | done | rfl | (simp only [List.length_drop, List.length_take]; rfl)) ?_; (with_reducible refine (num_Two.calls 1 t107 t104 t109 t110 _ A23.out).mono ?_); rintro e w160 ⟨rfl, hb⟩; refine ⟨_, rfl, ?_⟩; have n0_ := Aside0.mk (below_step (by repeat (first | (with_reducible first | exact HB.out | apply below_alloc | apply pw_below_drewN | apply below_drew1) | exact HB.out)) hb); clear HB; have HB := n0_; clear n0_ hb) | (go_at_call 19; (with_reducible refine (camshaftlaw01_known.calls  t119 _ A156.out).mono ?_); rintro e w161 ⟨rfl, hb⟩; have n0_ := Aside0.mk (below_step (by repeat (first | (with_reducible first | exact HB.out | apply below_alloc | apply pw_below_drewN | apply below_drew1) | exact HB.out)) hb); clear HB; have HB := n0_; clear n0_ hb))
                        go_ret
                        exact ⟨by first | rfl | (simp [errW_none, errW_some] <;> rfl) | (simp [*, errW_none, errW_some] <;> rfl), by repeat (first | (with_reducible first | exact HB.out | apply below_alloc | apply pw_below_drewN | apply below_drew1) | exact HB.out)⟩
                      · rw [if_neg c155] at H
                        have c155b0 : decide (t104 ≤ 0) = false := decide_eq_false c155
                        clear c155
                        by_cases c162 : a0 > 0
                        · rw [if_pos c162] at H
                          have c162b0 : decide (0 < a0) = true := decide_eq_true c162
                          clear c162
                          replace H := Option.bind_eq_some_iff.mp H
                          obtain ⟨t120, A1630, H⟩ := H
                          replace H : (some t120) = some r := H
                          have A163 := Aside0.mk A1630
                          clear A1630
                          obtain rfl := Option.some.inj H
                          go_enter Try.func4, Try.ntmps4
                          go_wp2_with (first | ((with_reducible refine gate_callee (f := 11) rfl ?_); refine goesL_ (some 17) rfl rfl Try.func11 (by kernel_rfl) rfl #[.int .i64 4, .int .i64 a0, .int .i64 a1] rfl (by (try simp only [List.map_toArray, List.map_cons, List.map_nil]); first | done | rfl | (simp only [List.length_drop, List.length_take]; rfl)) ?_; (with_reducible refine (num_Two.calls 4 a0 a1 t102 false _ A3.out).mono ?_); rintro e w164 ⟨rfl, hb⟩; refine ⟨_, rfl, ?_⟩; have n0_ := Aside0.mk (below_step (by repeat (first | (with_reducible first | exact HB.out | apply below_alloc | apply pw_below_drewN | apply below_drew1) | exact HB.out)) hb); clear HB; have HB := n0_; clear n0_ hb) | ((with_reducible refine gate_callee (f := 11) rfl ?_); refine goesL_ (some 23) rfl rfl Try.func11 (by kernel_rfl) rfl #[.int .i64 5, .int .i64 a0, .int .i64 a1] rfl (by (try simp only [List.map_toArray, List.map_cons, List.map_nil]); first | done | rfl | (simp only [List.length_drop, List.length_take]; rfl)) ?_; (with_reducible refine (num_Two.calls 5 a0 a1 t104 false _ A4.out).mono ?_); rintro e w165 ⟨rfl, hb⟩; refine ⟨_, rfl, ?_⟩; have n0_ := Aside0.mk (below_step (by repeat (first | (with_reducible first | exact HB.out | apply below_alloc | apply pw_below_drewN | apply below_drew1) | exact HB.out)) hb); clear HB; have HB := n0_; clear n0_ hb) | ((with_reducible refine gate_callee (f := 11) rfl ?_); refine goesL_ (some 46) rfl rfl Try.func11 (by kernel_rfl) rfl #[.int .i64 3, .int .i64 a1, .int .i64 t102] rfl (by (try simp only [List.map_toArray, List.map_cons, List.map_nil]); first | done | rfl | (simp only [List.length_drop, List.length_take]; rfl)) ?_; (with_reducible refine (num_Two.calls 3 a1 t102 t107 t108 _ A22.out).mono ?_); rintro e w166 ⟨rfl, hb⟩; refine ⟨_, rfl, ?_⟩; have n0_ := Aside0.mk (below_step (by repeat (first | (with_reducible first | exact HB.out | apply below_alloc | apply pw_below_drewN | apply below_drew1) | exact HB.out)) hb); clear HB; have HB := n0_; clear n0_ hb) | ((with_reducible refine gate_callee (f := 11) rfl ?_); refine goesL_ (some 52) rfl rfl Try.func11 (by kernel_rfl) rfl #[.int .i64 1, .int .i64 t107, .int .i64 t104] rfl (by (try simp only [List.map_toArray, List.map_cons, List.map_nil]); first | done | rfl | (simp only [List.length_drop, List.length_take]; rfl)) ?_; (with_reducible refine (num_Two.calls 1 t107 t104 t109 t110 _ A23.out).mono ?_); rintro e w167 ⟨rfl, hb⟩; refine ⟨_, rfl, ?_⟩; have n0_ := Aside0.mk (below_step (by repeat (first | (with_reducible first | exact HB.out | apply below_alloc | apply pw_below_drewN | apply below_drew1) | exact HB.out)) hb); clear HB; have HB := n0_; clear n0_ hb) | (go_at_call 19; (with_reducible refine (camshaftlaw01_known.calls  t120 _ A163.out).mono ?_); rintro e w168 ⟨rfl, hb⟩; have n0_ := Aside0.mk (below_step (by repeat (first | (with_reducible first | exact HB.out | apply below_alloc | apply pw_below_drewN | apply below_drew1) | exact HB.out)) hb); clear HB; have HB := n0_; clear n0_ hb))
                          go_ret
                          exact ⟨by first | rfl | (simp [errW_none, errW_some] <;> rfl) | (simp [*, errW_none, errW_some] <;> rfl), by repeat (first | (with_reducible first | exact HB.out | apply below_alloc | apply pw_below_drewN | apply below_drew1) | exact HB.out)⟩
                        · rw [if_neg c162] at H
                          have c162b0 : decide (0 < a0) = false := decide_eq_false c162
                          clear c162
                          obtain rfl := Option.some.inj H
                          cases hr
                    · rw [if_neg c154] at H
                      have c154b0 : decide (0 ≤ t104) = false := decide_eq_false c154
                      clear c154
                      by_cases c173 : a0 < 0
                      · rw [if_pos c173] at H
                        have c173b0 : decide (a0 < 0) = true := decide_eq_true c173
                        clear c173
                        by_cases c174 : t104 ≤ 0
                        · rw [if_pos c174] at H
                          have c174b0 : decide (t104 ≤ 0) = true := decide_eq_true c174
                          clear c174
                          replace H := Option.bind_eq_some_iff.mp H
                          obtain ⟨t121, A1750, H⟩ := H
                          replace H : (some t121) = some r := H
                          have A175 := Aside0.mk A1750
                          clear A1750
                          obtain rfl := Option.some.inj H
                          go_enter Try.func4, Try.ntmps4
                          go_wp2_with (first | ((with_reducible refine gate_callee (f := 11) rfl ?_); refine goesL_ (some 17) rfl rfl Try.func11 (by kernel_rfl) rfl #[.int .i64 4, .int .i64 a0, .int .i64 a1] rfl (by (try simp only [List.map_toArray, List.map_cons, List.map_nil]); first | done | rfl | (simp only [List.length_drop, List.length_take]; rfl)) ?_; (with_reducible refine (num_Two.calls 4 a0 a1 t102 false _ A3.out).mono ?_); rintro e w176 ⟨rfl, hb⟩; refine ⟨_, rfl, ?_⟩; have n0_ := Aside0.mk (below_step (by repeat (first | (with_reducible first | exact HB.out | apply below_alloc | apply pw_below_drewN | apply below_drew1) | exact HB.out)) hb); clear HB; have HB := n0_; clear n0_ hb) | ((with_reducible refine gate_callee (f := 11) rfl ?_); refine goesL_ (some 23) rfl rfl Try.func11 (by kernel_rfl) rfl #[.int .i64 5, .int .i64 a0, .int .i64 a1] rfl (by (try simp only [List.map_toArray, List.map_cons, List.map_nil]); first | done | rfl | (simp only [List.length_drop, List.length_take]; rfl)) ?_; (with_reducible refine (num_Two.calls 5 a0 a1 t104 false _ A4.out).mono ?_); rintro e w177 ⟨rfl, hb⟩; refine ⟨_, rfl, ?_⟩; have n0_ := Aside0.mk (below_step (by repeat (first | (with_reducible first | exact HB.out | apply below_alloc | apply pw_below_drewN | apply below_drew1) | exact HB.out)) hb); clear HB; have HB := n0_; clear n0_ hb) | ((with_reducible refine gate_callee (f := 11) rfl ?_); refine goesL_ (some 46) rfl rfl Try.func11 (by kernel_rfl) rfl #[.int .i64 3, .int .i64 a1, .int .i64 t102] rfl (by (try simp only [List.map_toArray, List.map_cons, List.map_nil]); first | done | rfl | (simp only [List.length_drop, List.length_take]; rfl)) ?_; (with_reducible refine (num_Two.calls 3 a1 t102 t107 t108 _ A22.out).mono ?_); rintro e w178 ⟨rfl, hb⟩; refine ⟨_, rfl, ?_⟩; have n0_ := Aside0.mk (below_step (by repeat (first | (with_reducible first | exact HB.out | apply below_alloc | apply pw_below_drewN | apply below_drew1) | exact HB.out)) hb); clear HB; have HB := n0_; clear n0_ hb) | ((with_reducible refine gate_callee (f := 11) rfl ?_); refine goesL_ (some 52) rfl rfl Try.func11 (by kernel_rfl) rfl #[.int .i64 1, .int .i64 t107, .int .i64 t104] rfl (by (try simp only [List.map_toArray, List.map_cons, List.map_nil]); first | done | rfl | (simp only [List.length_drop, List.length_take]; rfl)) ?_; (with_reducible refine (num_Two.calls 1 t107 t104 t109 t110 _ A23.out).mono ?_); rintro e w179 ⟨rfl, hb⟩; refine ⟨_, rfl, ?_⟩; have n0_ := Aside0.mk (below_step (by repeat (first | (with_reducible first | exact HB.out | apply below_alloc | apply pw_below_drewN | apply below_drew1) | exact HB.out)) hb); clear HB; have HB := n0_; clear n0_ hb) | (go_at_call 19; (with_reducible refine (camshaftlaw01_known.calls  t121 _ A175.out).mono ?_); rintro e w180 ⟨rfl, hb⟩; have n0_ := Aside0.mk (below_step (by repeat (first | (with_reducible first | exact HB.out | apply below_alloc | apply pw_below_drewN | apply below_drew1) | exact HB.out)) hb); clear HB; have HB := n0_; clear n0_ hb))
                          go_ret
                          exact ⟨by first | rfl | (simp [errW_none, errW_some] <;> rfl) | (simp [*, errW_none, errW_some] <;> rfl), by repeat (first | (with_reducible first | exact HB.out | apply below_alloc | apply pw_below_drewN | apply below_drew1) | exact HB.out)⟩
                        · rw [if_neg c174] at H
                          have c174b0 : decide (t104 ≤ 0) = false := decide_eq_false c174
                          clear c174
                          by_cases c181 : a0 > 0
                          · rw [if_pos c181] at H
                            have c181b0 : decide (0 < a0) = true := decide_eq_true c181
                            clear c181
                            replace H := Option.bind_eq_some_iff.mp H
                            obtain ⟨t122, A1820, H⟩ := H
                            replace H : (some t122) = some r := H
                            have A182 := Aside0.mk A1820
                            clear A1820
                            obtain rfl := Option.some.inj H
                            go_enter Try.func4, Try.ntmps4
                            go_wp2_with (first | ((with_reducible refine gate_callee (f := 11) rfl ?_); refine goesL_ (some 17) rfl rfl Try.func11 (by kernel_rfl) rfl #[.int .i64 4, .int .i64 a0, .int .i64 a1] rfl (by (try simp only [List.map_toArray, List.map_cons, List.map_nil]); first | done | rfl | (simp only [List.length_drop, List.length_take]; rfl)) ?_; (with_reducible refine (num_Two.calls 4 a0 a1 t102 false _ A3.out).mono ?_); rintro e w183 ⟨rfl, hb⟩; refine ⟨_, rfl, ?_⟩; have n0_ := Aside0.mk (below_step (by repeat (first | (with_reducible first | exact HB.out | apply below_alloc | apply pw_below_drewN | apply below_drew1) | exact HB.out)) hb); clear HB; have HB := n0_; clear n0_ hb) | ((with_reducible refine gate_callee (f := 11) rfl ?_); refine goesL_ (some 23) rfl rfl Try.func11 (by kernel_rfl) rfl #[.int .i64 5, .int .i64 a0, .int .i64 a1] rfl (by (try simp only [List.map_toArray, List.map_cons, List.map_nil]); first | done | rfl | (simp only [List.length_drop, List.length_take]; rfl)) ?_; (with_reducible refine (num_Two.calls 5 a0 a1 t104 false _ A4.out).mono ?_); rintro e w184 ⟨rfl, hb⟩; refine ⟨_, rfl, ?_⟩; have n0_ := Aside0.mk (below_step (by repeat (first | (with_reducible first | exact HB.out | apply below_alloc | apply pw_below_drewN | apply below_drew1) | exact HB.out)) hb); clear HB; have HB := n0_; clear n0_ hb) | ((with_reducible refine gate_callee (f := 11) rfl ?_); refine goesL_ (some 46) rfl rfl Try.func11 (by kernel_rfl) rfl #[.int .i64 3, .int .i64 a1, .int .i64 t102] rfl (by (try simp only [List.map_toArray, List.map_cons, List.map_nil]); first | done | rfl | (simp only [List.length_drop, List.length_take]; rfl)) ?_; (with_reducible refine (num_Two.calls 3 a1 t102 t107 t108 _ A22.out).mono ?_); rintro e w185 ⟨rfl, hb⟩; refine ⟨_, rfl, ?_⟩; have n0_ := Aside0.mk (below_step (by repeat (first | (with_reducible first | exact HB.out | apply below_alloc | apply pw_below_drewN | apply below_drew1) | exact HB.out)) hb); clear HB; have HB := n0_; clear n0_ hb) | ((with_reducible refine gate_callee (f := 11) rfl ?_); refine goesL_ (some 52) rfl rfl Try.func11 (by kernel_rfl) rfl #[.int .i64 1, .int .i64 t107, .int .i64 t104] rfl (by (try simp only [List.map_toArray, List.map_cons, List.map_nil]); first | done | rfl | (simp only [List.length_drop, List.length_take]; rfl)) ?_; (with_reducible refine (num_Two.calls 1 t107 t104 t109 t110 _ A23.out).mono ?_); rintro e w186 ⟨rfl, hb⟩; refine ⟨_, rfl, ?_⟩; have n0_ := Aside0.mk (below_step (by repeat (first | (with_reducible first | exact HB.out | apply below_alloc | apply pw_below_drewN | apply below_drew1) | exact HB.out)) hb); clear HB; have HB := n0_; clear n0_ hb) | (go_at_call 19; (with_reducible refine (camshaftlaw01_known.calls  t122 _ A182.out).mono ?_); rintro e w187 ⟨rfl, hb⟩; have n0_ := Aside0.mk (below_step (by repeat (first | (with_reducible first | exact HB.out | apply below_alloc | apply pw_below_drewN | apply below_drew1) | exact HB.out)) hb); clear HB; have HB := n0_; clear n0_ hb))
                            go_ret
                            exact ⟨by first | rfl | (simp [errW_none, errW_some] <;> rfl) | (simp [*, errW_none, errW_some] <;> rfl), by repeat (first | (with_reducible first | exact HB.out | apply below_alloc | apply pw_below_drewN | apply below_drew1) | exact HB.out)⟩
                          · rw [if_neg c181] at H
                            have c181b0 : decide (0 < a0) = false := decide_eq_false c181
                            clear c181
                            obtain rfl := Option.some.inj H
                            cases hr
                      · rw [if_neg c173] at H
                        have c173b0 : decide (a0 < 0) = false := decide_eq_false c173
                        clear c173
                        obtain rfl := Option.some.inj H
                        cases hr
                  · rw [if_neg c153] at H
                    have c153b0 : (a1 == (-9223372036854775808)) = false := beq_eq_false_iff_ne.mpr c153
                    have c153b1 : (a1 != (-9223372036854775808)) = true := bne_iff_ne.mpr c153
                    obtain rfl := Option.some.inj H
                    cases hr
            · rw [if_neg c142] at H
              have c142b0 : (t109 == a0) = false := beq_eq_false_iff_ne.mpr c142
              have c142b1 : (t109 != a0) = true := bne_iff_ne.mpr c142
              obtain rfl := Option.some.inj H
              cases hr
        · rw [if_neg c83] at H
          have c83b0 : decide (a1 < t104) = false := decide_eq_false c83
          clear c83
          by_cases c204 : t109 = a0
          · rw [if_pos c204] at H
            have c204b0 : (t109 == a0) = true := beq_iff_eq.mpr c204
            have c204b1 : (t109 != a0) = false := bne_eq_false_iff_eq.mpr c204
            clear c204
            by_cases c205 : t103 = true
            · subst c205
              have H1 : (some false) = some r := by rw [if_pos rfl] at H; exact H
              clear H
              have H := H1
              clear H1
              obtain rfl := Option.some.inj H
              cases hr
            · replace c205 := Bool.eq_false_iff.mpr c205
              subst c205
              have H1 : (if t105 = true then (some false) else (if a1 = (-9223372036854775808) then (if t104 ≥ 0 then (if t104 ≤ 0 then ((camshaftlaw01_known.f).bind fun t123 => (some t123)) else (if a0 > 0 then ((camshaftlaw01_known.f).bind fun t124 => (some t124)) else (some false))) else (if a0 < 0 then (if t104 ≤ 0 then ((camshaftlaw01_known.f).bind fun t125 => (some t125)) else (if a0 > 0 then ((camshaftlaw01_known.f).bind fun t126 => (some t126)) else (some false))) else (some false))) else (some false))) = some r := by rw [if_neg (show ¬ (false = true) by decide)] at H; exact H
              clear H
              have H := H1
              clear H1
              by_cases c210 : t105 = true
              · subst c210
                have H1 : (some false) = some r := by rw [if_pos rfl] at H; exact H
                clear H
                have H := H1
                clear H1
                obtain rfl := Option.some.inj H
                cases hr
              · replace c210 := Bool.eq_false_iff.mpr c210
                subst c210
                have H1 : (if a1 = (-9223372036854775808) then (if t104 ≥ 0 then (if t104 ≤ 0 then ((camshaftlaw01_known.f).bind fun t123 => (some t123)) else (if a0 > 0 then ((camshaftlaw01_known.f).bind fun t124 => (some t124)) else (some false))) else (if a0 < 0 then (if t104 ≤ 0 then ((camshaftlaw01_known.f).bind fun t125 => (some t125)) else (if a0 > 0 then ((camshaftlaw01_known.f).bind fun t126 => (some t126)) else (some false))) else (some false))) else (some false)) = some r := by rw [if_neg (show ¬ (false = true) by decide)] at H; exact H
                clear H
                have H := H1
                clear H1
                by_cases c215 : a1 = (-9223372036854775808)
                · rw [if_pos c215] at H
                  have c215b0 : (a1 == (-9223372036854775808)) = true := beq_iff_eq.mpr c215
                  have c215b1 : (a1 != (-9223372036854775808)) = false := bne_eq_false_iff_eq.mpr c215
                  clear c215
                  by_cases c216 : t104 ≥ 0
                  · rw [if_pos c216] at H
                    have c216b0 : decide (0 ≤ t104) = true := decide_eq_true c216
                    clear c216
                    by_cases c217 : t104 ≤ 0
                    · rw [if_pos c217] at H
                      have c217b0 : decide (t104 ≤ 0) = true := decide_eq_true c217
                      clear c217
                      replace H := Option.bind_eq_some_iff.mp H
                      obtain ⟨t123, A2180, H⟩ := H
                      replace H : (some t123) = some r := H
                      have A218 := Aside0.mk A2180
                      clear A2180
                      obtain rfl := Option.some.inj H
                      go_enter Try.func4, Try.ntmps4
                      go_wp2_with (first | ((with_reducible refine gate_callee (f := 11) rfl ?_); refine goesL_ (some 17) rfl rfl Try.func11 (by kernel_rfl) rfl #[.int .i64 4, .int .i64 a0, .int .i64 a1] rfl (by (try simp only [List.map_toArray, List.map_cons, List.map_nil]); first | done | rfl | (simp only [List.length_drop, List.length_take]; rfl)) ?_; (with_reducible refine (num_Two.calls 4 a0 a1 t102 false _ A3.out).mono ?_); rintro e w219 ⟨rfl, hb⟩; refine ⟨_, rfl, ?_⟩; have n0_ := Aside0.mk (below_step (by repeat (first | (with_reducible first | exact HB.out | apply below_alloc | apply pw_below_drewN | apply below_drew1) | exact HB.out)) hb); clear HB; have HB := n0_; clear n0_ hb) | ((with_reducible refine gate_callee (f := 11) rfl ?_); refine goesL_ (some 23) rfl rfl Try.func11 (by kernel_rfl) rfl #[.int .i64 5, .int .i64 a0, .int .i64 a1] rfl (by (try simp only [List.map_toArray, List.map_cons, List.map_nil]); first | done | rfl | (simp only [List.length_drop, List.length_take]; rfl)) ?_; (with_reducible refine (num_Two.calls 5 a0 a1 t104 false _ A4.out).mono ?_); rintro e w220 ⟨rfl, hb⟩; refine ⟨_, rfl, ?_⟩; have n0_ := Aside0.mk (below_step (by repeat (first | (with_reducible first | exact HB.out | apply below_alloc | apply pw_below_drewN | apply below_drew1) | exact HB.out)) hb); clear HB; have HB := n0_; clear n0_ hb) | ((with_reducible refine gate_callee (f := 11) rfl ?_); refine goesL_ (some 46) rfl rfl Try.func11 (by kernel_rfl) rfl #[.int .i64 3, .int .i64 a1, .int .i64 t102] rfl (by (try simp only [List.map_toArray, List.map_cons, List.map_nil]); first | done | rfl | (simp only [List.length_drop, List.length_take]; rfl)) ?_; (with_reducible refine (num_Two.calls 3 a1 t102 t107 t108 _ A22.out).mono ?_); rintro e w221 ⟨rfl, hb⟩; refine ⟨_, rfl, ?_⟩; have n0_ := Aside0.mk (below_step (by repeat (first | (with_reducible first | exact HB.out | apply below_alloc | apply pw_below_drewN | apply below_drew1) | exact HB.out)) hb); clear HB; have HB := n0_; clear n0_ hb) | ((with_reducible refine gate_callee (f := 11) rfl ?_); refine goesL_ (some 52) rfl rfl Try.func11 (by kernel_rfl) rfl #[.int .i64 1, .int .i64 t107, .int .i64 t104] rfl (by (try simp only [List.map_toArray, List.map_cons, List.map_nil]); first | done | rfl | (simp only [List.length_drop, List.length_take]; rfl)) ?_; (with_reducible refine (num_Two.calls 1 t107 t104 t109 t110 _ A23.out).mono ?_); rintro e w222 ⟨rfl, hb⟩; refine ⟨_, rfl, ?_⟩; have n0_ := Aside0.mk (below_step (by repeat (first | (with_reducible first | exact HB.out | apply below_alloc | apply pw_below_drewN | apply below_drew1) | exact HB.out)) hb); clear HB; have HB := n0_; clear n0_ hb) | (go_at_call 19; (with_reducible refine (camshaftlaw01_known.calls  t123 _ A218.out).mono ?_); rintro e w223 ⟨rfl, hb⟩; have n0_ := Aside0.mk (below_step (by repeat (first | (with_reducible first | exact HB.out | apply below_alloc | apply pw_below_drewN | apply below_drew1) | exact HB.out)) hb); clear HB; have HB := n0_; clear n0_ hb))
                      go_ret
                      exact ⟨by first | rfl | (simp [errW_none, errW_some] <;> rfl) | (simp [*, errW_none, errW_some] <;> rfl), by repeat (first | (with_reducible first | exact HB.out | apply below_alloc | apply pw_below_drewN | apply below_drew1) | exact HB.out)⟩
                    · rw [if_neg c217] at H
                      have c217b0 : decide (t104 ≤ 0) = false := decide_eq_false c217
                      clear c217
                      by_cases c224 : a0 > 0
                      · rw [if_pos c224] at H
                        have c224b0 : decide (0 < a0) = true := decide_eq_true c224
                        clear c224
                        replace H := Option.bind_eq_some_iff.mp H
                        obtain ⟨t124, A2250, H⟩ := H
                        replace H : (some t124) = some r := H
                        have A225 := Aside0.mk A2250
                        clear A2250
                        obtain rfl := Option.some.inj H
                        go_enter Try.func4, Try.ntmps4
                        go_wp2_with (first | ((with_reducible refine gate_callee (f := 11) rfl ?_); refine goesL_ (some 17) rfl rfl Try.func11 (by kernel_rfl) rfl #[.int .i64 4, .int .i64 a0, .int .i64 a1] rfl (by (try simp only [List.map_toArray, List.map_cons, List.map_nil]); first | done | rfl | (simp only [List.length_drop, List.length_take]; rfl)) ?_; (with_reducible refine (num_Two.calls 4 a0 a1 t102 false _ A3.out).mono ?_); rintro e w226 ⟨rfl, hb⟩; refine ⟨_, rfl, ?_⟩; have n0_ := Aside0.mk (below_step (by repeat (first | (with_reducible first | exact HB.out | apply below_alloc | apply pw_below_drewN | apply below_drew1) | exact HB.out)) hb); clear HB; have HB := n0_; clear n0_ hb) | ((with_reducible refine gate_callee (f := 11) rfl ?_); refine goesL_ (some 23) rfl rfl Try.func11 (by kernel_rfl) rfl #[.int .i64 5, .int .i64 a0, .int .i64 a1] rfl (by (try simp only [List.map_toArray, List.map_cons, List.map_nil]); first | done | rfl | (simp only [List.length_drop, List.length_take]; rfl)) ?_; (with_reducible refine (num_Two.calls 5 a0 a1 t104 false _ A4.out).mono ?_); rintro e w227 ⟨rfl, hb⟩; refine ⟨_, rfl, ?_⟩; have n0_ := Aside0.mk (below_step (by repeat (first | (with_reducible first | exact HB.out | apply below_alloc | apply pw_below_drewN | apply below_drew1) | exact HB.out)) hb); clear HB; have HB := n0_; clear n0_ hb) | ((with_reducible refine gate_callee (f := 11) rfl ?_); refine goesL_ (some 46) rfl rfl Try.func11 (by kernel_rfl) rfl #[.int .i64 3, .int .i64 a1, .int .i64 t102] rfl (by (try simp only [List.map_toArray, List.map_cons, List.map_nil]); first | done | rfl | (simp only [List.length_drop, List.length_take]; rfl)) ?_; (with_reducible refine (num_Two.calls 3 a1 t102 t107 t108 _ A22.out).mono ?_); rintro e w228 ⟨rfl, hb⟩; refine ⟨_, rfl, ?_⟩; have n0_ := Aside0.mk (below_step (by repeat (first | (with_reducible first | exact HB.out | apply below_alloc | apply pw_below_drewN | apply below_drew1) | exact HB.out)) hb); clear HB; have HB := n0_; clear n0_ hb) | ((with_reducible refine gate_callee (f := 11) rfl ?_); refine goesL_ (some 52) rfl rfl Try.func11 (by kernel_rfl) rfl #[.int .i64 1, .int .i64 t107, .int .i64 t104] rfl (by (try simp only [List.map_toArray, List.map_cons, List.map_nil]); first | done | rfl | (simp only [List.length_drop, List.length_take]; rfl)) ?_; (with_reducible refine (num_Two.calls 1 t107 t104 t109 t110 _ A23.out).mono ?_); rintro e w229 ⟨rfl, hb⟩; refine ⟨_, rfl, ?_⟩; have n0_ := Aside0.mk (below_step (by repeat (first | (with_reducible first | exact HB.out | apply below_alloc | apply pw_below_drewN | apply below_drew1) | exact HB.out)) hb); clear HB; have HB := n0_; clear n0_ hb) | (go_at_call 19; (with_reducible refine (camshaftlaw01_known.calls  t124 _ A225.out).mono ?_); rintro e w230 ⟨rfl, hb⟩; have n0_ := Aside0.mk (below_step (by repeat (first | (with_reducible first | exact HB.out | apply below_alloc | apply pw_below_drewN | apply below_drew1) | exact HB.out)) hb); clear HB; have HB := n0_; clear n0_ hb))
                        go_ret
                        exact ⟨by first | rfl | (simp [errW_none, errW_some] <;> rfl) | (simp [*, errW_none, errW_some] <;> rfl), by repeat (first | (with_reducible first | exact HB.out | apply below_alloc | apply pw_below_drewN | apply below_drew1) | exact HB.out)⟩
                      · rw [if_neg c224] at H
                        have c224b0 : decide (0 < a0) = false := decide_eq_false c224
                        clear c224
                        obtain rfl := Option.some.inj H
                        cases hr
                  · rw [if_neg c216] at H
                    have c216b0 : decide (0 ≤ t104) = false := decide_eq_false c216
                    clear c216
                    by_cases c235 : a0 < 0
                    · rw [if_pos c235] at H
                      have c235b0 : decide (a0 < 0) = true := decide_eq_true c235
                      clear c235
                      by_cases c236 : t104 ≤ 0
                      · rw [if_pos c236] at H
                        have c236b0 : decide (t104 ≤ 0) = true := decide_eq_true c236
                        clear c236
                        replace H := Option.bind_eq_some_iff.mp H
                        obtain ⟨t125, A2370, H⟩ := H
                        replace H : (some t125) = some r := H
                        have A237 := Aside0.mk A2370
                        clear A2370
                        obtain rfl := Option.some.inj H
                        go_enter Try.func4, Try.ntmps4
                        go_wp2_with (first | ((with_reducible refine gate_callee (f := 11) rfl ?_); refine goesL_ (some 17) rfl rfl Try.func11 (by kernel_rfl) rfl #[.int .i64 4, .int .i64 a0, .int .i64 a1] rfl (by (try simp only [List.map_toArray, List.map_cons, List.map_nil]); first | done | rfl | (simp only [List.length_drop, List.length_take]; rfl)) ?_; (with_reducible refine (num_Two.calls 4 a0 a1 t102 false _ A3.out).mono ?_); rintro e w238 ⟨rfl, hb⟩; refine ⟨_, rfl, ?_⟩; have n0_ := Aside0.mk (below_step (by repeat (first | (with_reducible first | exact HB.out | apply below_alloc | apply pw_below_drewN | apply below_drew1) | exact HB.out)) hb); clear HB; have HB := n0_; clear n0_ hb) | ((with_reducible refine gate_callee (f := 11) rfl ?_); refine goesL_ (some 23) rfl rfl Try.func11 (by kernel_rfl) rfl #[.int .i64 5, .int .i64 a0, .int .i64 a1] rfl (by (try simp only [List.map_toArray, List.map_cons, List.map_nil]); first | done | rfl | (simp only [List.length_drop, List.length_take]; rfl)) ?_; (with_reducible refine (num_Two.calls 5 a0 a1 t104 false _ A4.out).mono ?_); rintro e w239 ⟨rfl, hb⟩; refine ⟨_, rfl, ?_⟩; have n0_ := Aside0.mk (below_step (by repeat (first | (with_reducible first | exact HB.out | apply below_alloc | apply pw_below_drewN | apply below_drew1) | exact HB.out)) hb); clear HB; have HB := n0_; clear n0_ hb) | ((with_reducible refine gate_callee (f := 11) rfl ?_); refine goesL_ (some 46) rfl rfl Try.func11 (by kernel_rfl) rfl #[.int .i64 3, .int .i64 a1, .int .i64 t102] rfl (by (try simp only [List.map_toArray, List.map_cons, List.map_nil]); first | done | rfl | (simp only [List.length_drop, List.length_take]; rfl)) ?_; (with_reducible refine (num_Two.calls 3 a1 t102 t107 t108 _ A22.out).mono ?_); rintro e w240 ⟨rfl, hb⟩; refine ⟨_, rfl, ?_⟩; have n0_ := Aside0.mk (below_step (by repeat (first | (with_reducible first | exact HB.out | apply below_alloc | apply pw_below_drewN | apply below_drew1) | exact HB.out)) hb); clear HB; have HB := n0_; clear n0_ hb) | ((with_reducible refine gate_callee (f := 11) rfl ?_); refine goesL_ (some 52) rfl rfl Try.func11 (by kernel_rfl) rfl #[.int .i64 1, .int .i64 t107, .int .i64 t104] rfl (by (try simp only [List.map_toArray, List.map_cons, List.map_nil]); first | done | rfl | (simp only [List.length_drop, List.length_take]; rfl)) ?_; (with_reducible refine (num_Two.calls 1 t107 t104 t109 t110 _ A23.out).mono ?_); rintro e w241 ⟨rfl, hb⟩; refine ⟨_, rfl, ?_⟩; have n0_ := Aside0.mk (below_step (by repeat (first | (with_reducible first | exact HB.out | apply below_alloc | apply pw_below_drewN | apply below_drew1) | exact HB.out)) hb); clear HB; have HB := n0_; clear n0_ hb) | (go_at_call 19; (with_reducible refine (camshaftlaw01_known.calls  t125 _ A237.out).mono ?_); rintro e w242 ⟨rfl, hb⟩; have n0_ := Aside0.mk (below_step (by repeat (first | (with_reducible first | exact HB.out | apply below_alloc | apply pw_below_drewN | apply below_drew1) | exact HB.out)) hb); clear HB; have HB := n0_; clear n0_ hb))
                        go_ret
                        exact ⟨by first | rfl | (simp [errW_none, errW_some] <;> rfl) | (simp [*, errW_none, errW_some] <;> rfl), by repeat (first | (with_reducible first | exact HB.out | apply below_alloc | apply pw_below_drewN | apply below_drew1) | exact HB.out)⟩
                      · rw [if_neg c236] at H
                        have c236b0 : decide (t104 ≤ 0) = false := decide_eq_false c236
                        clear c236
                        by_cases c243 : a0 > 0
                        · rw [if_pos c243] at H
                          have c243b0 : decide (0 < a0) = true := decide_eq_true c243
                          clear c243
                          replace H := Option.bind_eq_some_iff.mp H
                          obtain ⟨t126, A2440, H⟩ := H
                          replace H : (some t126) = some r := H
                          have A244 := Aside0.mk A2440
                          clear A2440
                          obtain rfl := Option.some.inj H
                          go_enter Try.func4, Try.ntmps4
                          go_wp2_with (first | ((with_reducible refine gate_callee (f := 11) rfl ?_); refine goesL_ (some 17) rfl rfl Try.func11 (by kernel_rfl) rfl #[.int .i64 4, .int .i64 a0, .int .i64 a1] rfl (by (try simp only [List.map_toArray, List.map_cons, List.map_nil]); first | done | rfl | (simp only [List.length_drop, List.length_take]; rfl)) ?_; (with_reducible refine (num_Two.calls 4 a0 a1 t102 false _ A3.out).mono ?_); rintro e w245 ⟨rfl, hb⟩; refine ⟨_, rfl, ?_⟩; have n0_ := Aside0.mk (below_step (by repeat (first | (with_reducible first | exact HB.out | apply below_alloc | apply pw_below_drewN | apply below_drew1) | exact HB.out)) hb); clear HB; have HB := n0_; clear n0_ hb) | ((with_reducible refine gate_callee (f := 11) rfl ?_); refine goesL_ (some 23) rfl rfl Try.func11 (by kernel_rfl) rfl #[.int .i64 5, .int .i64 a0, .int .i64 a1] rfl (by (try simp only [List.map_toArray, List.map_cons, List.map_nil]); first | done | rfl | (simp only [List.length_drop, List.length_take]; rfl)) ?_; (with_reducible refine (num_Two.calls 5 a0 a1 t104 false _ A4.out).mono ?_); rintro e w246 ⟨rfl, hb⟩; refine ⟨_, rfl, ?_⟩; have n0_ := Aside0.mk (below_step (by repeat (first | (with_reducible first | exact HB.out | apply below_alloc | apply pw_below_drewN | apply below_drew1) | exact HB.out)) hb); clear HB; have HB := n0_; clear n0_ hb) | ((with_reducible refine gate_callee (f := 11) rfl ?_); refine goesL_ (some 46) rfl rfl Try.func11 (by kernel_rfl) rfl #[.int .i64 3, .int .i64 a1, .int .i64 t102] rfl (by (try simp only [List.map_toArray, List.map_cons, List.map_nil]); first | done | rfl | (simp only [List.length_drop, List.length_take]; rfl)) ?_; (with_reducible refine (num_Two.calls 3 a1 t102 t107 t108 _ A22.out).mono ?_); rintro e w247 ⟨rfl, hb⟩; refine ⟨_, rfl, ?_⟩; have n0_ := Aside0.mk (below_step (by repeat (first | (with_reducible first | exact HB.out | apply below_alloc | apply pw_below_drewN | apply below_drew1) | exact HB.out)) hb); clear HB; have HB := n0_; clear n0_ hb) | ((with_reducible refine gate_callee (f := 11) rfl ?_); refine goesL_ (some 52) rfl rfl Try.func11 (by kernel_rfl) rfl #[.int .i64 1, .int .i64 t107, .int .i64 t104] rfl (by (try simp only [List.map_toArray, List.map_cons, List.map_nil]); first | done | rfl | (simp only [List.length_drop, List.length_take]; rfl)) ?_; (with_reducible refine (num_Two.calls 1 t107 t104 t109 t110 _ A23.out).mono ?_); rintro e w248 ⟨rfl, hb⟩; refine ⟨_, rfl, ?_⟩; have n0_ := Aside0.mk (below_step (by repeat (first | (with_reducible first | exact HB.out | apply below_alloc | apply pw_below_drewN | apply below_drew1) | exact HB.out)) hb); clear HB; have HB := n0_; clear n0_ hb) | (go_at_call 19; (with_reducible refine (camshaftlaw01_known.calls  t126 _ A244.out).mono ?_); rintro e w249 ⟨rfl, hb⟩; have n0_ := Aside0.mk (below_step (by repeat (first | (with_reducible first | exact HB.out | apply below_alloc | apply pw_below_drewN | apply below_drew1) | exact HB.out)) hb); clear HB; have HB := n0_; clear n0_ hb))
                          go_ret
                          exact ⟨by first | rfl | (simp [errW_none, errW_some] <;> rfl) | (simp [*, errW_none, errW_some] <;> rfl), by repeat (first | (with_reducible first | exact HB.out | apply below_alloc | apply pw_below_drewN | apply below_drew1) | exact HB.out)⟩
                        · rw [if_neg c243] at H
                          have c243b0 : decide (0 < a0) = false := decide_eq_false c243
                          clear c243
                          obtain rfl := Option.some.inj H
                          cases hr
                    · rw [if_neg c235] at H
                      have c235b0 : decide (a0 < 0) = false := decide_eq_false c235
                      clear c235
                      obtain rfl := Option.some.inj H
                      cases hr
                · rw [if_neg c215] at H
                  have c215b0 : (a1 == (-9223372036854775808)) = false := beq_eq_false_iff_ne.mpr c215
                  have c215b1 : (a1 != (-9223372036854775808)) = true := bne_iff_ne.mpr c215
                  obtain rfl := Option.some.inj H
                  cases hr
          · rw [if_neg c204] at H
            have c204b0 : (t109 == a0) = false := beq_eq_false_iff_ne.mpr c204
            have c204b1 : (t109 != a0) = true := bne_iff_ne.mpr c204
            obtain rfl := Option.some.inj H
            cases hr
    · rw [if_neg c24] at H
      have c24b0 : decide (t104 < a1) = false := decide_eq_false c24
      clear c24
      by_cases c266 : t104 > a1
      · rw [if_pos c266] at H
        have c266b0 : decide (a1 < t104) = true := decide_eq_true c266
        clear c266
        by_cases c267 : t104 < (wrap64 (-a1))
        · rw [if_pos c267] at H
          have c267b0 : decide (t104 < (wrap64 (-a1))) = true := decide_eq_true c267
          clear c267
          by_cases c268 : t109 = a0
          · rw [if_pos c268] at H
            have c268b0 : (t109 == a0) = true := beq_iff_eq.mpr c268
            have c268b1 : (t109 != a0) = false := bne_eq_false_iff_eq.mpr c268
            clear c268
            by_cases c269 : t103 = true
            · subst c269
              have H1 : (some false) = some r := by rw [if_pos rfl] at H; exact H
              clear H
              have H := H1
              clear H1
              obtain rfl := Option.some.inj H
              cases hr
            · replace c269 := Bool.eq_false_iff.mpr c269
              subst c269
              have H1 : (if t105 = true then (some false) else (if t104 ≥ 0 then (if t104 ≤ 0 then ((camshaftlaw01_known.f).bind fun t127 => (some t127)) else (if a0 > 0 then ((camshaftlaw01_known.f).bind fun t128 => (some t128)) else (some false))) else (if a0 < 0 then (if t104 ≤ 0 then ((camshaftlaw01_known.f).bind fun t129 => (some t129)) else (if a0 > 0 then ((camshaftlaw01_known.f).bind fun t130 => (some t130)) else (some false))) else (some false)))) = some r := by rw [if_neg (show ¬ (false = true) by decide)] at H; exact H
              clear H
              have H := H1
              clear H1
              by_cases c274 : t105 = true
              · subst c274
                have H1 : (some false) = some r := by rw [if_pos rfl] at H; exact H
                clear H
                have H := H1
                clear H1
                obtain rfl := Option.some.inj H
                cases hr
              · replace c274 := Bool.eq_false_iff.mpr c274
                subst c274
                have H1 : (if t104 ≥ 0 then (if t104 ≤ 0 then ((camshaftlaw01_known.f).bind fun t127 => (some t127)) else (if a0 > 0 then ((camshaftlaw01_known.f).bind fun t128 => (some t128)) else (some false))) else (if a0 < 0 then (if t104 ≤ 0 then ((camshaftlaw01_known.f).bind fun t129 => (some t129)) else (if a0 > 0 then ((camshaftlaw01_known.f).bind fun t130 => (some t130)) else (some false))) else (some false))) = some r := by rw [if_neg (show ¬ (false = true) by decide)] at H; exact H
                clear H
                have H := H1
                clear H1
                by_cases c279 : t104 ≥ 0
                · rw [if_pos c279] at H
                  have c279b0 : decide (0 ≤ t104) = true := decide_eq_true c279
                  clear c279
                  by_cases c280 : t104 ≤ 0
                  · rw [if_pos c280] at H
                    have c280b0 : decide (t104 ≤ 0) = true := decide_eq_true c280
                    clear c280
                    replace H := Option.bind_eq_some_iff.mp H
                    obtain ⟨t127, A2810, H⟩ := H
                    replace H : (some t127) = some r := H
                    have A281 := Aside0.mk A2810
                    clear A2810
                    obtain rfl := Option.some.inj H
                    go_enter Try.func4, Try.ntmps4
                    go_wp2_with (first | ((with_reducible refine gate_callee (f := 11) rfl ?_); refine goesL_ (some 17) rfl rfl Try.func11 (by kernel_rfl) rfl #[.int .i64 4, .int .i64 a0, .int .i64 a1] rfl (by (try simp only [List.map_toArray, List.map_cons, List.map_nil]); first | done | rfl | (simp only [List.length_drop, List.length_take]; rfl)) ?_; (with_reducible refine (num_Two.calls 4 a0 a1 t102 false _ A3.out).mono ?_); rintro e w282 ⟨rfl, hb⟩; refine ⟨_, rfl, ?_⟩; have n0_ := Aside0.mk (below_step (by repeat (first | (with_reducible first | exact HB.out | apply below_alloc | apply pw_below_drewN | apply below_drew1) | exact HB.out)) hb); clear HB; have HB := n0_; clear n0_ hb) | ((with_reducible refine gate_callee (f := 11) rfl ?_); refine goesL_ (some 23) rfl rfl Try.func11 (by kernel_rfl) rfl #[.int .i64 5, .int .i64 a0, .int .i64 a1] rfl (by (try simp only [List.map_toArray, List.map_cons, List.map_nil]); first | done | rfl | (simp only [List.length_drop, List.length_take]; rfl)) ?_; (with_reducible refine (num_Two.calls 5 a0 a1 t104 false _ A4.out).mono ?_); rintro e w283 ⟨rfl, hb⟩; refine ⟨_, rfl, ?_⟩; have n0_ := Aside0.mk (below_step (by repeat (first | (with_reducible first | exact HB.out | apply below_alloc | apply pw_below_drewN | apply below_drew1) | exact HB.out)) hb); clear HB; have HB := n0_; clear n0_ hb) | ((with_reducible refine gate_callee (f := 11) rfl ?_); refine goesL_ (some 46) rfl rfl Try.func11 (by kernel_rfl) rfl #[.int .i64 3, .int .i64 a1, .int .i64 t102] rfl (by (try simp only [List.map_toArray, List.map_cons, List.map_nil]); first | done | rfl | (simp only [List.length_drop, List.length_take]; rfl)) ?_; (with_reducible refine (num_Two.calls 3 a1 t102 t107 t108 _ A22.out).mono ?_); rintro e w284 ⟨rfl, hb⟩; refine ⟨_, rfl, ?_⟩; have n0_ := Aside0.mk (below_step (by repeat (first | (with_reducible first | exact HB.out | apply below_alloc | apply pw_below_drewN | apply below_drew1) | exact HB.out)) hb); clear HB; have HB := n0_; clear n0_ hb) | ((with_reducible refine gate_callee (f := 11) rfl ?_); refine goesL_ (some 52) rfl rfl Try.func11 (by kernel_rfl) rfl #[.int .i64 1, .int .i64 t107, .int .i64 t104] rfl (by (try simp only [List.map_toArray, List.map_cons, List.map_nil]); first | done | rfl | (simp only [List.length_drop, List.length_take]; rfl)) ?_; (with_reducible refine (num_Two.calls 1 t107 t104 t109 t110 _ A23.out).mono ?_); rintro e w285 ⟨rfl, hb⟩; refine ⟨_, rfl, ?_⟩; have n0_ := Aside0.mk (below_step (by repeat (first | (with_reducible first | exact HB.out | apply below_alloc | apply pw_below_drewN | apply below_drew1) | exact HB.out)) hb); clear HB; have HB := n0_; clear n0_ hb) | (go_at_call 19; (with_reducible refine (camshaftlaw01_known.calls  t127 _ A281.out).mono ?_); rintro e w286 ⟨rfl, hb⟩; have n0_ := Aside0.mk (below_step (by repeat (first | (with_reducible first | exact HB.out | apply below_alloc | apply pw_below_drewN | apply below_drew1) | exact HB.out)) hb); clear HB; have HB := n0_; clear n0_ hb))
                    go_ret
                    exact ⟨by first | rfl | (simp [errW_none, errW_some] <;> rfl) | (simp [*, errW_none, errW_some] <;> rfl), by repeat (first | (with_reducible first | exact HB.out | apply below_alloc | apply pw_below_drewN | apply below_drew1) | exact HB.out)⟩
                  · rw [if_neg c280] at H
                    have c280b0 : decide (t104 ≤ 0) = false := decide_eq_false c280
                    clear c280
                    by_cases c287 : a0 > 0
                    · rw [if_pos c287] at H
                      have c287b0 : decide (0 < a0) = true := decide_eq_true c287
                      clear c287
                      replace H := Option.bind_eq_some_iff.mp H
                      obtain ⟨t128, A2880, H⟩ := H
                      replace H : (some t128) = some r := H
                      have A288 := Aside0.mk A2880
                      clear A2880
                      obtain rfl := Option.some.inj H
                      go_enter Try.func4, Try.ntmps4
                      go_wp2_with (first | ((with_reducible refine gate_callee (f := 11) rfl ?_); refine goesL_ (some 17) rfl rfl Try.func11 (by kernel_rfl) rfl #[.int .i64 4, .int .i64 a0, .int .i64 a1] rfl (by (try simp only [List.map_toArray, List.map_cons, List.map_nil]); first | done | rfl | (simp only [List.length_drop, List.length_take]; rfl)) ?_; (with_reducible refine (num_Two.calls 4 a0 a1 t102 false _ A3.out).mono ?_); rintro e w289 ⟨rfl, hb⟩; refine ⟨_, rfl, ?_⟩; have n0_ := Aside0.mk (below_step (by repeat (first | (with_reducible first | exact HB.out | apply below_alloc | apply pw_below_drewN | apply below_drew1) | exact HB.out)) hb); clear HB; have HB := n0_; clear n0_ hb) | ((with_reducible refine gate_callee (f := 11) rfl ?_); refine goesL_ (some 23) rfl rfl Try.func11 (by kernel_rfl) rfl #[.int .i64 5, .int .i64 a0, .int .i64 a1] rfl (by (try simp only [List.map_toArray, List.map_cons, List.map_nil]); first | done | rfl | (simp only [List.length_drop, List.length_take]; rfl)) ?_; (with_reducible refine (num_Two.calls 5 a0 a1 t104 false _ A4.out).mono ?_); rintro e w290 ⟨rfl, hb⟩; refine ⟨_, rfl, ?_⟩; have n0_ := Aside0.mk (below_step (by repeat (first | (with_reducible first | exact HB.out | apply below_alloc | apply pw_below_drewN | apply below_drew1) | exact HB.out)) hb); clear HB; have HB := n0_; clear n0_ hb) | ((with_reducible refine gate_callee (f := 11) rfl ?_); refine goesL_ (some 46) rfl rfl Try.func11 (by kernel_rfl) rfl #[.int .i64 3, .int .i64 a1, .int .i64 t102] rfl (by (try simp only [List.map_toArray, List.map_cons, List.map_nil]); first | done | rfl | (simp only [List.length_drop, List.length_take]; rfl)) ?_; (with_reducible refine (num_Two.calls 3 a1 t102 t107 t108 _ A22.out).mono ?_); rintro e w291 ⟨rfl, hb⟩; refine ⟨_, rfl, ?_⟩; have n0_ := Aside0.mk (below_step (by repeat (first | (with_reducible first | exact HB.out | apply below_alloc | apply pw_below_drewN | apply below_drew1) | exact HB.out)) hb); clear HB; have HB := n0_; clear n0_ hb) | ((with_reducible refine gate_callee (f := 11) rfl ?_); refine goesL_ (some 52) rfl rfl Try.func11 (by kernel_rfl) rfl #[.int .i64 1, .int .i64 t107, .int .i64 t104] rfl (by (try simp only [List.map_toArray, List.map_cons, List.map_nil]); first | done | rfl | (simp only [List.length_drop, List.length_take]; rfl)) ?_; (with_reducible refine (num_Two.calls 1 t107 t104 t109 t110 _ A23.out).mono ?_); rintro e w292 ⟨rfl, hb⟩; refine ⟨_, rfl, ?_⟩; have n0_ := Aside0.mk (below_step (by repeat (first | (with_reducible first | exact HB.out | apply below_alloc | apply pw_below_drewN | apply below_drew1) | exact HB.out)) hb); clear HB; have HB := n0_; clear n0_ hb) | (go_at_call 19; (with_reducible refine (camshaftlaw01_known.calls  t128 _ A288.out).mono ?_); rintro e w293 ⟨rfl, hb⟩; have n0_ := Aside0.mk (below_step (by repeat (first | (with_reducible first | exact HB.out | apply below_alloc | apply pw_below_drewN | apply below_drew1) | exact HB.out)) hb); clear HB; have HB := n0_; clear n0_ hb))
                      go_ret
                      exact ⟨by first | rfl | (simp [errW_none, errW_some] <;> rfl) | (simp [*, errW_none, errW_some] <;> rfl), by repeat (first | (with_reducible first | exact HB.out | apply below_alloc | apply pw_below_drewN | apply below_drew1) | exact HB.out)⟩
                    · rw [if_neg c287] at H
                      have c287b0 : decide (0 < a0) = false := decide_eq_false c287
                      clear c287
                      obtain rfl := Option.some.inj H
                      cases hr
                · rw [if_neg c279] at H
                  have c279b0 : decide (0 ≤ t104) = false := decide_eq_false c279
                  clear c279
                  by_cases c298 : a0 < 0
                  · rw [if_pos c298] at H
                    have c298b0 : decide (a0 < 0) = true := decide_eq_true c298
                    clear c298
                    by_cases c299 : t104 ≤ 0
                    · rw [if_pos c299] at H
                      have c299b0 : decide (t104 ≤ 0) = true := decide_eq_true c299
                      clear c299
                      replace H := Option.bind_eq_some_iff.mp H
                      obtain ⟨t129, A3000, H⟩ := H
                      replace H : (some t129) = some r := H
                      have A300 := Aside0.mk A3000
                      clear A3000
                      obtain rfl := Option.some.inj H
                      go_enter Try.func4, Try.ntmps4
                      go_wp2_with (first | ((with_reducible refine gate_callee (f := 11) rfl ?_); refine goesL_ (some 17) rfl rfl Try.func11 (by kernel_rfl) rfl #[.int .i64 4, .int .i64 a0, .int .i64 a1] rfl (by (try simp only [List.map_toArray, List.map_cons, List.map_nil]); first | done | rfl | (simp only [List.length_drop, List.length_take]; rfl)) ?_; (with_reducible refine (num_Two.calls 4 a0 a1 t102 false _ A3.out).mono ?_); rintro e w301 ⟨rfl, hb⟩; refine ⟨_, rfl, ?_⟩; have n0_ := Aside0.mk (below_step (by repeat (first | (with_reducible first | exact HB.out | apply below_alloc | apply pw_below_drewN | apply below_drew1) | exact HB.out)) hb); clear HB; have HB := n0_; clear n0_ hb) | ((with_reducible refine gate_callee (f := 11) rfl ?_); refine goesL_ (some 23) rfl rfl Try.func11 (by kernel_rfl) rfl #[.int .i64 5, .int .i64 a0, .int .i64 a1] rfl (by (try simp only [List.map_toArray, List.map_cons, List.map_nil]); first | done | rfl | (simp only [List.length_drop, List.length_take]; rfl)) ?_; (with_reducible refine (num_Two.calls 5 a0 a1 t104 false _ A4.out).mono ?_); rintro e w302 ⟨rfl, hb⟩; refine ⟨_, rfl, ?_⟩; have n0_ := Aside0.mk (below_step (by repeat (first | (with_reducible first | exact HB.out | apply below_alloc | apply pw_below_drewN | apply below_drew1) | exact HB.out)) hb); clear HB; have HB := n0_; clear n0_ hb) | ((with_reducible refine gate_callee (f := 11) rfl ?_); refine goesL_ (some 46) rfl rfl Try.func11 (by kernel_rfl) rfl #[.int .i64 3, .int .i64 a1, .int .i64 t102] rfl (by (try simp only [List.map_toArray, List.map_cons, List.map_nil]); first | done | rfl | (simp only [List.length_drop, List.length_take]; rfl)) ?_; (with_reducible refine (num_Two.calls 3 a1 t102 t107 t108 _ A22.out).mono ?_); rintro e w303 ⟨rfl, hb⟩; refine ⟨_, rfl, ?_⟩; have n0_ := Aside0.mk (below_step (by repeat (first | (with_reducible first | exact HB.out | apply below_alloc | apply pw_below_drewN | apply below_drew1) | exact HB.out)) hb); clear HB; have HB := n0_; clear n0_ hb) | ((with_reducible refine gate_callee (f := 11) rfl ?_); refine goesL_ (some 52) rfl rfl Try.func11 (by kernel_rfl) rfl #[.int .i64 1, .int .i64 t107, .int .i64 t104] rfl (by (try simp only [List.map_toArray, List.map_cons, List.map_nil]); first | done | rfl | (simp only [List.length_drop, List.length_take]; rfl)) ?_; (with_reducible refine (num_Two.calls 1 t107 t104 t109 t110 _ A23.out).mono ?_); rintro e w304 ⟨rfl, hb⟩; refine ⟨_, rfl, ?_⟩; have n0_ := Aside0.mk (below_step (by repeat (first | (with_reducible first | exact HB.out | apply below_alloc | apply pw_below_drewN | apply below_drew1) | exact HB.out)) hb); clear HB; have HB := n0_; clear n0_ hb) | (go_at_call 19; (with_reducible refine (camshaftlaw01_known.calls  t129 _ A300.out).mono ?_); rintro e w305 ⟨rfl, hb⟩; have n0_ := Aside0.mk (below_step (by repeat (first | (with_reducible first | exact HB.out | apply below_alloc | apply pw_below_drewN | apply below_drew1) | exact HB.out)) hb); clear HB; have HB := n0_; clear n0_ hb))
                      go_ret
                      exact ⟨by first | rfl | (simp [errW_none, errW_some] <;> rfl) | (simp [*, errW_none, errW_some] <;> rfl), by repeat (first | (with_reducible first | exact HB.out | apply below_alloc | apply pw_below_drewN | apply below_drew1) | exact HB.out)⟩
                    · rw [if_neg c299] at H
                      have c299b0 : decide (t104 ≤ 0) = false := decide_eq_false c299
                      clear c299
                      by_cases c306 : a0 > 0
                      · rw [if_pos c306] at H
                        have c306b0 : decide (0 < a0) = true := decide_eq_true c306
                        clear c306
                        replace H := Option.bind_eq_some_iff.mp H
                        obtain ⟨t130, A3070, H⟩ := H
                        replace H : (some t130) = some r := H
                        have A307 := Aside0.mk A3070
                        clear A3070
                        obtain rfl := Option.some.inj H
                        go_enter Try.func4, Try.ntmps4
                        go_wp2_with (first | ((with_reducible refine gate_callee (f := 11) rfl ?_); refine goesL_ (some 17) rfl rfl Try.func11 (by kernel_rfl) rfl #[.int .i64 4, .int .i64 a0, .int .i64 a1] rfl (by (try simp only [List.map_toArray, List.map_cons, List.map_nil]); first | done | rfl | (simp only [List.length_drop, List.length_take]; rfl)) ?_; (with_reducible refine (num_Two.calls 4 a0 a1 t102 false _ A3.out).mono ?_); rintro e w308 ⟨rfl, hb⟩; refine ⟨_, rfl, ?_⟩; have n0_ := Aside0.mk (below_step (by repeat (first | (with_reducible first | exact HB.out | apply below_alloc | apply pw_below_drewN | apply below_drew1) | exact HB.out)) hb); clear HB; have HB := n0_; clear n0_ hb) | ((with_reducible refine gate_callee (f := 11) rfl ?_); refine goesL_ (some 23) rfl rfl Try.func11 (by kernel_rfl) rfl #[.int .i64 5, .int .i64 a0, .int .i64 a1] rfl (by (try simp only [List.map_toArray, List.map_cons, List.map_nil]); first | done | rfl | (simp only [List.length_drop, List.length_take]; rfl)) ?_; (with_reducible refine (num_Two.calls 5 a0 a1 t104 false _ A4.out).mono ?_); rintro e w309 ⟨rfl, hb⟩; refine ⟨_, rfl, ?_⟩; have n0_ := Aside0.mk (below_step (by repeat (first | (with_reducible first | exact HB.out | apply below_alloc | apply pw_below_drewN | apply below_drew1) | exact HB.out)) hb); clear HB; have HB := n0_; clear n0_ hb) | ((with_reducible refine gate_callee (f := 11) rfl ?_); refine goesL_ (some 46) rfl rfl Try.func11 (by kernel_rfl) rfl #[.int .i64 3, .int .i64 a1, .int .i64 t102] rfl (by (try simp only [List.map_toArray, List.map_cons, List.map_nil]); first | done | rfl | (simp only [List.length_drop, List.length_take]; rfl)) ?_; (with_reducible refine (num_Two.calls 3 a1 t102 t107 t108 _ A22.out).mono ?_); rintro e w310 ⟨rfl, hb⟩; refine ⟨_, rfl, ?_⟩; have n0_ := Aside0.mk (below_step (by repeat (first | (with_reducible first | exact HB.out | apply below_alloc | apply pw_below_drewN | apply below_drew1) | exact HB.out)) hb); clear HB; have HB := n0_; clear n0_ hb) | ((with_reducible refine gate_callee (f := 11) rfl ?_); refine goesL_ (some 52) rfl rfl Try.func11 (by kernel_rfl) rfl #[.int .i64 1, .int .i64 t107, .int .i64 t104] rfl (by (try simp only [List.map_toArray, List.map_cons, List.map_nil]); first | done | rfl | (simp only [List.length_drop, List.length_take]; rfl)) ?_; (with_reducible refine (num_Two.calls 1 t107 t104 t109 t110 _ A23.out).mono ?_); rintro e w311 ⟨rfl, hb⟩; refine ⟨_, rfl, ?_⟩; have n0_ := Aside0.mk (below_step (by repeat (first | (with_reducible first | exact HB.out | apply below_alloc | apply pw_below_drewN | apply below_drew1) | exact HB.out)) hb); clear HB; have HB := n0_; clear n0_ hb) | (go_at_call 19; (with_reducible refine (camshaftlaw01_known.calls  t130 _ A307.out).mono ?_); rintro e w312 ⟨rfl, hb⟩; have n0_ := Aside0.mk (below_step (by repeat (first | (with_reducible first | exact HB.out | apply below_alloc | apply pw_below_drewN | apply below_drew1) | exact HB.out)) hb); clear HB; have HB := n0_; clear n0_ hb))
                        go_ret
                        exact ⟨by first | rfl | (simp [errW_none, errW_some] <;> rfl) | (simp [*, errW_none, errW_some] <;> rfl), by repeat (first | (with_reducible first | exact HB.out | apply below_alloc | apply pw_below_drewN | apply below_drew1) | exact HB.out)⟩
                      · rw [if_neg c306] at H
                        have c306b0 : decide (0 < a0) = false := decide_eq_false c306
                        clear c306
                        obtain rfl := Option.some.inj H
                        cases hr
                  · rw [if_neg c298] at H
                    have c298b0 : decide (a0 < 0) = false := decide_eq_false c298
                    clear c298
                    obtain rfl := Option.some.inj H
                    cases hr
          · rw [if_neg c268] at H
            have c268b0 : (t109 == a0) = false := beq_eq_false_iff_ne.mpr c268
            have c268b1 : (t109 != a0) = true := bne_iff_ne.mpr c268
            obtain rfl := Option.some.inj H
            cases hr
        · rw [if_neg c267] at H
          have c267b0 : decide (t104 < (wrap64 (-a1))) = false := decide_eq_false c267
          clear c267
          by_cases c325 : t109 = a0
          · rw [if_pos c325] at H
            have c325b0 : (t109 == a0) = true := beq_iff_eq.mpr c325
            have c325b1 : (t109 != a0) = false := bne_eq_false_iff_eq.mpr c325
            clear c325
            by_cases c326 : t103 = true
            · subst c326
              have H1 : (some false) = some r := by rw [if_pos rfl] at H; exact H
              clear H
              have H := H1
              clear H1
              obtain rfl := Option.some.inj H
              cases hr
            · replace c326 := Bool.eq_false_iff.mpr c326
              subst c326
              have H1 : (if t105 = true then (some false) else (if a1 = (-9223372036854775808) then (if t104 ≥ 0 then (if t104 ≤ 0 then ((camshaftlaw01_known.f).bind fun t131 => (some t131)) else (if a0 > 0 then ((camshaftlaw01_known.f).bind fun t132 => (some t132)) else (some false))) else (if a0 < 0 then (if t104 ≤ 0 then ((camshaftlaw01_known.f).bind fun t133 => (some t133)) else (if a0 > 0 then ((camshaftlaw01_known.f).bind fun t134 => (some t134)) else (some false))) else (some false))) else (some false))) = some r := by rw [if_neg (show ¬ (false = true) by decide)] at H; exact H
              clear H
              have H := H1
              clear H1
              by_cases c331 : t105 = true
              · subst c331
                have H1 : (some false) = some r := by rw [if_pos rfl] at H; exact H
                clear H
                have H := H1
                clear H1
                obtain rfl := Option.some.inj H
                cases hr
              · replace c331 := Bool.eq_false_iff.mpr c331
                subst c331
                have H1 : (if a1 = (-9223372036854775808) then (if t104 ≥ 0 then (if t104 ≤ 0 then ((camshaftlaw01_known.f).bind fun t131 => (some t131)) else (if a0 > 0 then ((camshaftlaw01_known.f).bind fun t132 => (some t132)) else (some false))) else (if a0 < 0 then (if t104 ≤ 0 then ((camshaftlaw01_known.f).bind fun t133 => (some t133)) else (if a0 > 0 then ((camshaftlaw01_known.f).bind fun t134 => (some t134)) else (some false))) else (some false))) else (some false)) = some r := by rw [if_neg (show ¬ (false = true) by decide)] at H; exact H
                clear H
                have H := H1
                clear H1
                by_cases c336 : a1 = (-9223372036854775808)
                · rw [if_pos c336] at H
                  have c336b0 : (a1 == (-9223372036854775808)) = true := beq_iff_eq.mpr c336
                  have c336b1 : (a1 != (-9223372036854775808)) = false := bne_eq_false_iff_eq.mpr c336
                  clear c336
                  by_cases c337 : t104 ≥ 0
                  · rw [if_pos c337] at H
                    have c337b0 : decide (0 ≤ t104) = true := decide_eq_true c337
                    clear c337
                    by_cases c338 : t104 ≤ 0
                    · rw [if_pos c338] at H
                      have c338b0 : decide (t104 ≤ 0) = true := decide_eq_true c338
                      clear c338
                      replace H := Option.bind_eq_some_iff.mp H
                      obtain ⟨t131, A3390, H⟩ := H
                      replace H : (some t131) = some r := H
                      have A339 := Aside0.mk A3390
                      clear A3390
                      obtain rfl := Option.some.inj H
                      go_enter Try.func4, Try.ntmps4
                      go_wp2_with (first | ((with_reducible refine gate_callee (f := 11) rfl ?_); refine goesL_ (some 17) rfl rfl Try.func11 (by kernel_rfl) rfl #[.int .i64 4, .int .i64 a0, .int .i64 a1] rfl (by (try simp only [List.map_toArray, List.map_cons, List.map_nil]); first | done | rfl | (simp only [List.length_drop, List.length_take]; rfl)) ?_; (with_reducible refine (num_Two.calls 4 a0 a1 t102 false _ A3.out).mono ?_); rintro e w340 ⟨rfl, hb⟩; refine ⟨_, rfl, ?_⟩; have n0_ := Aside0.mk (below_step (by repeat (first | (with_reducible first | exact HB.out | apply below_alloc | apply pw_below_drewN | apply below_drew1) | exact HB.out)) hb); clear HB; have HB := n0_; clear n0_ hb) | ((with_reducible refine gate_callee (f := 11) rfl ?_); refine goesL_ (some 23) rfl rfl Try.func11 (by kernel_rfl) rfl #[.int .i64 5, .int .i64 a0, .int .i64 a1] rfl (by (try simp only [List.map_toArray, List.map_cons, List.map_nil]); first | done | rfl | (simp only [List.length_drop, List.length_take]; rfl)) ?_; (with_reducible refine (num_Two.calls 5 a0 a1 t104 false _ A4.out).mono ?_); rintro e w341 ⟨rfl, hb⟩; refine ⟨_, rfl, ?_⟩; have n0_ := Aside0.mk (below_step (by repeat (first | (with_reducible first | exact HB.out | apply below_alloc | apply pw_below_drewN | apply below_drew1) | exact HB.out)) hb); clear HB; have HB := n0_; clear n0_ hb) | ((with_reducible refine gate_callee (f := 11) rfl ?_); refine goesL_ (some 46) rfl rfl Try.func11 (by kernel_rfl) rfl #[.int .i64 3, .int .i64 a1, .int .i64 t102] rfl (by (try simp only [List.map_toArray, List.map_cons, List.map_nil]); first | done | rfl | (simp only [List.length_drop, List.length_take]; rfl)) ?_; (with_reducible refine (num_Two.calls 3 a1 t102 t107 t108 _ A22.out).mono ?_); rintro e w342 ⟨rfl, hb⟩; refine ⟨_, rfl, ?_⟩; have n0_ := Aside0.mk (below_step (by repeat (first | (with_reducible first | exact HB.out | apply below_alloc | apply pw_below_drewN | apply below_drew1) | exact HB.out)) hb); clear HB; have HB := n0_; clear n0_ hb) | ((with_reducible refine gate_callee (f := 11) rfl ?_); refine goesL_ (some 52) rfl rfl Try.func11 (by kernel_rfl) rfl #[.int .i64 1, .int .i64 t107, .int .i64 t104] rfl (by (try simp only [List.map_toArray, List.map_cons, List.map_nil]); first | done | rfl | (simp only [List.length_drop, List.length_take]; rfl)) ?_; (with_reducible refine (num_Two.calls 1 t107 t104 t109 t110 _ A23.out).mono ?_); rintro e w343 ⟨rfl, hb⟩; refine ⟨_, rfl, ?_⟩; have n0_ := Aside0.mk (below_step (by repeat (first | (with_reducible first | exact HB.out | apply below_alloc | apply pw_below_drewN | apply below_drew1) | exact HB.out)) hb); clear HB; have HB := n0_; clear n0_ hb) | (go_at_call 19; (with_reducible refine (camshaftlaw01_known.calls  t131 _ A339.out).mono ?_); rintro e w344 ⟨rfl, hb⟩; have n0_ := Aside0.mk (below_step (by repeat (first | (with_reducible first | exact HB.out | apply below_alloc | apply pw_below_drewN | apply below_drew1) | exact HB.out)) hb); clear HB; have HB := n0_; clear n0_ hb))
                      go_ret
                      exact ⟨by first | rfl | (simp [errW_none, errW_some] <;> rfl) | (simp [*, errW_none, errW_some] <;> rfl), by repeat (first | (with_reducible first | exact HB.out | apply below_alloc | apply pw_below_drewN | apply below_drew1) | exact HB.out)⟩
                    · rw [if_neg c338] at H
                      have c338b0 : decide (t104 ≤ 0) = false := decide_eq_false c338
                      clear c338
                      by_cases c345 : a0 > 0
                      · rw [if_pos c345] at H
                        have c345b0 : decide (0 < a0) = true := decide_eq_true c345
                        clear c345
                        replace H := Option.bind_eq_some_iff.mp H
                        obtain ⟨t132, A3460, H⟩ := H
                        replace H : (some t132) = some r := H
                        have A346 := Aside0.mk A3460
                        clear A3460
                        obtain rfl := Option.some.inj H
                        go_enter Try.func4, Try.ntmps4
                        go_wp2_with (first | ((with_reducible refine gate_callee (f := 11) rfl ?_); refine goesL_ (some 17) rfl rfl Try.func11 (by kernel_rfl) rfl #[.int .i64 4, .int .i64 a0, .int .i64 a1] rfl (by (try simp only [List.map_toArray, List.map_cons, List.map_nil]); first | done | rfl | (simp only [List.length_drop, List.length_take]; rfl)) ?_; (with_reducible refine (num_Two.calls 4 a0 a1 t102 false _ A3.out).mono ?_); rintro e w347 ⟨rfl, hb⟩; refine ⟨_, rfl, ?_⟩; have n0_ := Aside0.mk (below_step (by repeat (first | (with_reducible first | exact HB.out | apply below_alloc | apply pw_below_drewN | apply below_drew1) | exact HB.out)) hb); clear HB; have HB := n0_; clear n0_ hb) | ((with_reducible refine gate_callee (f := 11) rfl ?_); refine goesL_ (some 23) rfl rfl Try.func11 (by kernel_rfl) rfl #[.int .i64 5, .int .i64 a0, .int .i64 a1] rfl (by (try simp only [List.map_toArray, List.map_cons, List.map_nil]); first | done | rfl | (simp only [List.length_drop, List.length_take]; rfl)) ?_; (with_reducible refine (num_Two.calls 5 a0 a1 t104 false _ A4.out).mono ?_); rintro e w348 ⟨rfl, hb⟩; refine ⟨_, rfl, ?_⟩; have n0_ := Aside0.mk (below_step (by repeat (first | (with_reducible first | exact HB.out | apply below_alloc | apply pw_below_drewN | apply below_drew1) | exact HB.out)) hb); clear HB; have HB := n0_; clear n0_ hb) | ((with_reducible refine gate_callee (f := 11) rfl ?_); refine goesL_ (some 46) rfl rfl Try.func11 (by kernel_rfl) rfl #[.int .i64 3, .int .i64 a1, .int .i64 t102] rfl (by (try simp only [List.map_toArray, List.map_cons, List.map_nil]); first | done | rfl | (simp only [List.length_drop, List.length_take]; rfl)) ?_; (with_reducible refine (num_Two.calls 3 a1 t102 t107 t108 _ A22.out).mono ?_); rintro e w349 ⟨rfl, hb⟩; refine ⟨_, rfl, ?_⟩; have n0_ := Aside0.mk (below_step (by repeat (first | (with_reducible first | exact HB.out | apply below_alloc | apply pw_below_drewN | apply below_drew1) | exact HB.out)) hb); clear HB; have HB := n0_; clear n0_ hb) | ((with_reducible refine gate_callee (f := 11) rfl ?_); refine goesL_ (some 52) rfl rfl Try.func11 (by kernel_rfl) rfl #[.int .i64 1, .int .i64 t107, .int .i64 t104] rfl (by (try simp only [List.map_toArray, List.map_cons, List.map_nil]); first | done | rfl | (simp only [List.length_drop, List.length_take]; rfl)) ?_; (with_reducible refine (num_Two.calls 1 t107 t104 t109 t110 _ A23.out).mono ?_); rintro e w350 ⟨rfl, hb⟩; refine ⟨_, rfl, ?_⟩; have n0_ := Aside0.mk (below_step (by repeat (first | (with_reducible first | exact HB.out | apply below_alloc | apply pw_below_drewN | apply below_drew1) | exact HB.out)) hb); clear HB; have HB := n0_; clear n0_ hb) | (go_at_call 19; (with_reducible refine (camshaftlaw01_known.calls  t132 _ A346.out).mono ?_); rintro e w351 ⟨rfl, hb⟩; have n0_ := Aside0.mk (below_step (by repeat (first | (with_reducible first | exact HB.out | apply below_alloc | apply pw_below_drewN | apply below_drew1) | exact HB.out)) hb); clear HB; have HB := n0_; clear n0_ hb))
                        go_ret
                        exact ⟨by first | rfl | (simp [errW_none, errW_some] <;> rfl) | (simp [*, errW_none, errW_some] <;> rfl), by repeat (first | (with_reducible first | exact HB.out | apply below_alloc | apply pw_below_drewN | apply below_drew1) | exact HB.out)⟩
                      · rw [if_neg c345] at H
                        have c345b0 : decide (0 < a0) = false := decide_eq_false c345
                        clear c345
                        obtain rfl := Option.some.inj H
                        cases hr
                  · rw [if_neg c337] at H
                    have c337b0 : decide (0 ≤ t104) = false := decide_eq_false c337
                    clear c337
                    by_cases c356 : a0 < 0
                    · rw [if_pos c356] at H
                      have c356b0 : decide (a0 < 0) = true := decide_eq_true c356
                      clear c356
                      by_cases c357 : t104 ≤ 0
                      · rw [if_pos c357] at H
                        have c357b0 : decide (t104 ≤ 0) = true := decide_eq_true c357
                        clear c357
                        replace H := Option.bind_eq_some_iff.mp H
                        obtain ⟨t133, A3580, H⟩ := H
                        replace H : (some t133) = some r := H
                        have A358 := Aside0.mk A3580
                        clear A3580
                        obtain rfl := Option.some.inj H
                        go_enter Try.func4, Try.ntmps4
                        go_wp2_with (first | ((with_reducible refine gate_callee (f := 11) rfl ?_); refine goesL_ (some 17) rfl rfl Try.func11 (by kernel_rfl) rfl #[.int .i64 4, .int .i64 a0, .int .i64 a1] rfl (by (try simp only [List.map_toArray, List.map_cons, List.map_nil]); first | done | rfl | (simp only [List.length_drop, List.length_take]; rfl)) ?_; (with_reducible refine (num_Two.calls 4 a0 a1 t102 false _ A3.out).mono ?_); rintro e w359 ⟨rfl, hb⟩; refine ⟨_, rfl, ?_⟩; have n0_ := Aside0.mk (below_step (by repeat (first | (with_reducible first | exact HB.out | apply below_alloc | apply pw_below_drewN | apply below_drew1) | exact HB.out)) hb); clear HB; have HB := n0_; clear n0_ hb) | ((with_reducible refine gate_callee (f := 11) rfl ?_); refine goesL_ (some 23) rfl rfl Try.func11 (by kernel_rfl) rfl #[.int .i64 5, .int .i64 a0, .int .i64 a1] rfl (by (try simp only [List.map_toArray, List.map_cons, List.map_nil]); first | done | rfl | (simp only [List.length_drop, List.length_take]; rfl)) ?_; (with_reducible refine (num_Two.calls 5 a0 a1 t104 false _ A4.out).mono ?_); rintro e w360 ⟨rfl, hb⟩; refine ⟨_, rfl, ?_⟩; have n0_ := Aside0.mk (below_step (by repeat (first | (with_reducible first | exact HB.out | apply below_alloc | apply pw_below_drewN | apply below_drew1) | exact HB.out)) hb); clear HB; have HB := n0_; clear n0_ hb) | ((with_reducible refine gate_callee (f := 11) rfl ?_); refine goesL_ (some 46) rfl rfl Try.func11 (by kernel_rfl) rfl #[.int .i64 3, .int .i64 a1, .int .i64 t102] rfl (by (try simp only [List.map_toArray, List.map_cons, List.map_nil]); first | done | rfl | (simp only [List.length_drop, List.length_take]; rfl)) ?_; (with_reducible refine (num_Two.calls 3 a1 t102 t107 t108 _ A22.out).mono ?_); rintro e w361 ⟨rfl, hb⟩; refine ⟨_, rfl, ?_⟩; have n0_ := Aside0.mk (below_step (by repeat (first | (with_reducible first | exact HB.out | apply below_alloc | apply pw_below_drewN | apply below_drew1) | exact HB.out)) hb); clear HB; have HB := n0_; clear n0_ hb) | ((with_reducible refine gate_callee (f := 11) rfl ?_); refine goesL_ (some 52) rfl rfl Try.func11 (by kernel_rfl) rfl #[.int .i64 1, .int .i64 t107, .int .i64 t104] rfl (by (try simp only [List.map_toArray, List.map_cons, List.map_nil]); first | done | rfl | (simp only [List.length_drop, List.length_take]; rfl)) ?_; (with_reducible refine (num_Two.calls 1 t107 t104 t109 t110 _ A23.out).mono ?_); rintro e w362 ⟨rfl, hb⟩; refine ⟨_, rfl, ?_⟩; have n0_ := Aside0.mk (below_step (by repeat (first | (with_reducible first | exact HB.out | apply below_alloc | apply pw_below_drewN | apply below_drew1) | exact HB.out)) hb); clear HB; have HB := n0_; clear n0_ hb) | (go_at_call 19; (with_reducible refine (camshaftlaw01_known.calls  t133 _ A358.out).mono ?_); rintro e w363 ⟨rfl, hb⟩; have n0_ := Aside0.mk (below_step (by repeat (first | (with_reducible first | exact HB.out | apply below_alloc | apply pw_below_drewN | apply below_drew1) | exact HB.out)) hb); clear HB; have HB := n0_; clear n0_ hb))
                        go_ret
                        exact ⟨by first | rfl | (simp [errW_none, errW_some] <;> rfl) | (simp [*, errW_none, errW_some] <;> rfl), by repeat (first | (with_reducible first | exact HB.out | apply below_alloc | apply pw_below_drewN | apply below_drew1) | exact HB.out)⟩
                      · rw [if_neg c357] at H
                        have c357b0 : decide (t104 ≤ 0) = false := decide_eq_false c357
                        clear c357
                        by_cases c364 : a0 > 0
                        · rw [if_pos c364] at H
                          have c364b0 : decide (0 < a0) = true := decide_eq_true c364
                          clear c364
                          replace H := Option.bind_eq_some_iff.mp H
                          obtain ⟨t134, A3650, H⟩ := H
                          replace H : (some t134) = some r := H
                          have A365 := Aside0.mk A3650
                          clear A3650
                          obtain rfl := Option.some.inj H
                          go_enter Try.func4, Try.ntmps4
                          go_wp2_with (first | ((with_reducible refine gate_callee (f := 11) rfl ?_); refine goesL_ (some 17) rfl rfl Try.func11 (by kernel_rfl) rfl #[.int .i64 4, .int .i64 a0, .int .i64 a1] rfl (by (try simp only [List.map_toArray, List.map_cons, List.map_nil]); first | done | rfl | (simp only [List.length_drop, List.length_take]; rfl)) ?_; (with_reducible refine (num_Two.calls 4 a0 a1 t102 false _ A3.out).mono ?_); rintro e w366 ⟨rfl, hb⟩; refine ⟨_, rfl, ?_⟩; have n0_ := Aside0.mk (below_step (by repeat (first | (with_reducible first | exact HB.out | apply below_alloc | apply pw_below_drewN | apply below_drew1) | exact HB.out)) hb); clear HB; have HB := n0_; clear n0_ hb) | ((with_reducible refine gate_callee (f := 11) rfl ?_); refine goesL_ (some 23) rfl rfl Try.func11 (by kernel_rfl) rfl #[.int .i64 5, .int .i64 a0, .int .i64 a1] rfl (by (try simp only [List.map_toArray, List.map_cons, List.map_nil]); first | done | rfl | (simp only [List.length_drop, List.length_take]; rfl)) ?_; (with_reducible refine (num_Two.calls 5 a0 a1 t104 false _ A4.out).mono ?_); rintro e w367 ⟨rfl, hb⟩; refine ⟨_, rfl, ?_⟩; have n0_ := Aside0.mk (below_step (by repeat (first | (with_reducible first | exact HB.out | apply below_alloc | apply pw_below_drewN | apply below_drew1) | exact HB.out)) hb); clear HB; have HB := n0_; clear n0_ hb) | ((with_reducible refine gate_callee (f := 11) rfl ?_); refine goesL_ (some 46) rfl rfl Try.func11 (by kernel_rfl) rfl #[.int .i64 3, .int .i64 a1, .int .i64 t102] rfl (by (try simp only [List.map_toArray, List.map_cons, List.map_nil]); first | done | rfl | (simp only [List.length_drop, List.length_take]; rfl)) ?_; (with_reducible refine (num_Two.calls 3 a1 t102 t107 t108 _ A22.out).mono ?_); rintro e w368 ⟨rfl, hb⟩; refine ⟨_, rfl, ?_⟩; have n0_ := Aside0.mk (below_step (by repeat (first | (with_reducible first | exact HB.out | apply below_alloc | apply pw_below_drewN | apply below_drew1) | exact HB.out)) hb); clear HB; have HB := n0_; clear n0_ hb) | ((with_reducible refine gate_callee (f := 11) rfl ?_); refine goesL_ (some 52) rfl rfl Try.func11 (by kernel_rfl) rfl #[.int .i64 1, .int .i64 t107, .int .i64 t104] rfl (by (try simp only [List.map_toArray, List.map_cons, List.map_nil]); first | done | rfl | (simp only [List.length_drop, List.length_take]; rfl)) ?_; (with_reducible refine (num_Two.calls 1 t107 t104 t109 t110 _ A23.out).mono ?_); rintro e w369 ⟨rfl, hb⟩; refine ⟨_, rfl, ?_⟩; have n0_ := Aside0.mk (below_step (by repeat (first | (with_reducible first | exact HB.out | apply below_alloc | apply pw_below_drewN | apply below_drew1) | exact HB.out)) hb); clear HB; have HB := n0_; clear n0_ hb) | (go_at_call 19; (with_reducible refine (camshaftlaw01_known.calls  t134 _ A365.out).mono ?_); rintro e w370 ⟨rfl, hb⟩; have n0_ := Aside0.mk (below_step (by repeat (first | (with_reducible first | exact HB.out | apply below_alloc | apply pw_below_drewN | apply below_drew1) | exact HB.out)) hb); clear HB; have HB := n0_; clear n0_ hb))
                          go_ret
                          exact ⟨by first | rfl | (simp [errW_none, errW_some] <;> rfl) | (simp [*, errW_none, errW_some] <;> rfl), by repeat (first | (with_reducible first | exact HB.out | apply below_alloc | apply pw_below_drewN | apply below_drew1) | exact HB.out)⟩
                        · rw [if_neg c364] at H
                          have c364b0 : decide (0 < a0) = false := decide_eq_false c364
                          clear c364
                          obtain rfl := Option.some.inj H
                          cases hr
                    · rw [if_neg c356] at H
                      have c356b0 : decide (a0 < 0) = false := decide_eq_false c356
                      clear c356
                      obtain rfl := Option.some.inj H
                      cases hr
                · rw [if_neg c336] at H
                  have c336b0 : (a1 == (-9223372036854775808)) = false := beq_eq_false_iff_ne.mpr c336
                  have c336b1 : (a1 != (-9223372036854775808)) = true := bne_iff_ne.mpr c336
                  obtain rfl := Option.some.inj H
                  cases hr
          · rw [if_neg c325] at H
            have c325b0 : (t109 == a0) = false := beq_eq_false_iff_ne.mpr c325
            have c325b1 : (t109 != a0) = true := bne_iff_ne.mpr c325
            obtain rfl := Option.some.inj H
            cases hr
      · rw [if_neg c266] at H
        have c266b0 : decide (a1 < t104) = false := decide_eq_false c266
        clear c266
        by_cases c387 : t109 = a0
        · rw [if_pos c387] at H
          have c387b0 : (t109 == a0) = true := beq_iff_eq.mpr c387
          have c387b1 : (t109 != a0) = false := bne_eq_false_iff_eq.mpr c387
          clear c387
          by_cases c388 : t103 = true
          · subst c388
            have H1 : (some false) = some r := by rw [if_pos rfl] at H; exact H
            clear H
            have H := H1
            clear H1
            obtain rfl := Option.some.inj H
            cases hr
          · replace c388 := Bool.eq_false_iff.mpr c388
            subst c388
            have H1 : (if t105 = true then (some false) else (if a1 = (-9223372036854775808) then (if t104 ≥ 0 then (if t104 ≤ 0 then ((camshaftlaw01_known.f).bind fun t135 => (some t135)) else (if a0 > 0 then ((camshaftlaw01_known.f).bind fun t136 => (some t136)) else (some false))) else (if a0 < 0 then (if t104 ≤ 0 then ((camshaftlaw01_known.f).bind fun t137 => (some t137)) else (if a0 > 0 then ((camshaftlaw01_known.f).bind fun t138 => (some t138)) else (some false))) else (some false))) else (some false))) = some r := by rw [if_neg (show ¬ (false = true) by decide)] at H; exact H
            clear H
            have H := H1
            clear H1
            by_cases c393 : t105 = true
            · subst c393
              have H1 : (some false) = some r := by rw [if_pos rfl] at H; exact H
              clear H
              have H := H1
              clear H1
              obtain rfl := Option.some.inj H
              cases hr
            · replace c393 := Bool.eq_false_iff.mpr c393
              subst c393
              have H1 : (if a1 = (-9223372036854775808) then (if t104 ≥ 0 then (if t104 ≤ 0 then ((camshaftlaw01_known.f).bind fun t135 => (some t135)) else (if a0 > 0 then ((camshaftlaw01_known.f).bind fun t136 => (some t136)) else (some false))) else (if a0 < 0 then (if t104 ≤ 0 then ((camshaftlaw01_known.f).bind fun t137 => (some t137)) else (if a0 > 0 then ((camshaftlaw01_known.f).bind fun t138 => (some t138)) else (some false))) else (some false))) else (some false)) = some r := by rw [if_neg (show ¬ (false = true) by decide)] at H; exact H
              clear H
              have H := H1
              clear H1
              by_cases c398 : a1 = (-9223372036854775808)
              · rw [if_pos c398] at H
                have c398b0 : (a1 == (-9223372036854775808)) = true := beq_iff_eq.mpr c398
                have c398b1 : (a1 != (-9223372036854775808)) = false := bne_eq_false_iff_eq.mpr c398
                clear c398
                by_cases c399 : t104 ≥ 0
                · rw [if_pos c399] at H
                  have c399b0 : decide (0 ≤ t104) = true := decide_eq_true c399
                  clear c399
                  by_cases c400 : t104 ≤ 0
                  · rw [if_pos c400] at H
                    have c400b0 : decide (t104 ≤ 0) = true := decide_eq_true c400
                    clear c400
                    replace H := Option.bind_eq_some_iff.mp H
                    obtain ⟨t135, A4010, H⟩ := H
                    replace H : (some t135) = some r := H
                    have A401 := Aside0.mk A4010
                    clear A4010
                    obtain rfl := Option.some.inj H
                    go_enter Try.func4, Try.ntmps4
                    go_wp2_with (first | ((with_reducible refine gate_callee (f := 11) rfl ?_); refine goesL_ (some 17) rfl rfl Try.func11 (by kernel_rfl) rfl #[.int .i64 4, .int .i64 a0, .int .i64 a1] rfl (by (try simp only [List.map_toArray, List.map_cons, List.map_nil]); first | done | rfl | (simp only [List.length_drop, List.length_take]; rfl)) ?_; (with_reducible refine (num_Two.calls 4 a0 a1 t102 false _ A3.out).mono ?_); rintro e w402 ⟨rfl, hb⟩; refine ⟨_, rfl, ?_⟩; have n0_ := Aside0.mk (below_step (by repeat (first | (with_reducible first | exact HB.out | apply below_alloc | apply pw_below_drewN | apply below_drew1) | exact HB.out)) hb); clear HB; have HB := n0_; clear n0_ hb) | ((with_reducible refine gate_callee (f := 11) rfl ?_); refine goesL_ (some 23) rfl rfl Try.func11 (by kernel_rfl) rfl #[.int .i64 5, .int .i64 a0, .int .i64 a1] rfl (by (try simp only [List.map_toArray, List.map_cons, List.map_nil]); first | done | rfl | (simp only [List.length_drop, List.length_take]; rfl)) ?_; (with_reducible refine (num_Two.calls 5 a0 a1 t104 false _ A4.out).mono ?_); rintro e w403 ⟨rfl, hb⟩; refine ⟨_, rfl, ?_⟩; have n0_ := Aside0.mk (below_step (by repeat (first | (with_reducible first | exact HB.out | apply below_alloc | apply pw_below_drewN | apply below_drew1) | exact HB.out)) hb); clear HB; have HB := n0_; clear n0_ hb) | ((with_reducible refine gate_callee (f := 11) rfl ?_); refine goesL_ (some 46) rfl rfl Try.func11 (by kernel_rfl) rfl #[.int .i64 3, .int .i64 a1, .int .i64 t102] rfl (by (try simp only [List.map_toArray, List.map_cons, List.map_nil]); first | done | rfl | (simp only [List.length_drop, List.length_take]; rfl)) ?_; (with_reducible refine (num_Two.calls 3 a1 t102 t107 t108 _ A22.out).mono ?_); rintro e w404 ⟨rfl, hb⟩; refine ⟨_, rfl, ?_⟩; have n0_ := Aside0.mk (below_step (by repeat (first | (with_reducible first | exact HB.out | apply below_alloc | apply pw_below_drewN | apply below_drew1) | exact HB.out)) hb); clear HB; have HB := n0_; clear n0_ hb) | ((with_reducible refine gate_callee (f := 11) rfl ?_); refine goesL_ (some 52) rfl rfl Try.func11 (by kernel_rfl) rfl #[.int .i64 1, .int .i64 t107, .int .i64 t104] rfl (by (try simp only [List.map_toArray, List.map_cons, List.map_nil]); first | done | rfl | (simp only [List.length_drop, List.length_take]; rfl)) ?_; (with_reducible refine (num_Two.calls 1 t107 t104 t109 t110 _ A23.out).mono ?_); rintro e w405 ⟨rfl, hb⟩; refine ⟨_, rfl, ?_⟩; have n0_ := Aside0.mk (below_step (by repeat (first | (with_reducible first | exact HB.out | apply below_alloc | apply pw_below_drewN | apply below_drew1) | exact HB.out)) hb); clear HB; have HB := n0_; clear n0_ hb) | (go_at_call 19; (with_reducible refine (camshaftlaw01_known.calls  t135 _ A401.out).mono ?_); rintro e w406 ⟨rfl, hb⟩; have n0_ := Aside0.mk (below_step (by repeat (first | (with_reducible first | exact HB.out | apply below_alloc | apply pw_below_drewN | apply below_drew1) | exact HB.out)) hb); clear HB; have HB := n0_; clear n0_ hb))
                    go_ret
                    exact ⟨by first | rfl | (simp [errW_none, errW_some] <;> rfl) | (simp [*, errW_none, errW_some] <;> rfl), by repeat (first | (with_reducible first | exact HB.out | apply below_alloc | apply pw_below_drewN | apply below_drew1) | exact HB.out)⟩
                  · rw [if_neg c400] at H
                    have c400b0 : decide (t104 ≤ 0) = false := decide_eq_false c400
                    clear c400
                    by_cases c407 : a0 > 0
                    · rw [if_pos c407] at H
                      have c407b0 : decide (0 < a0) = true := decide_eq_true c407
                      clear c407
                      replace H := Option.bind_eq_some_iff.mp H
                      obtain ⟨t136, A4080, H⟩ := H
                      replace H : (some t136) = some r := H
                      have A408 := Aside0.mk A4080
                      clear A4080
                      obtain rfl := Option.some.inj H
                      go_enter Try.func4, Try.ntmps4
                      go_wp2_with (first | ((with_reducible refine gate_callee (f := 11) rfl ?_); refine goesL_ (some 17) rfl rfl Try.func11 (by kernel_rfl) rfl #[.int .i64 4, .int .i64 a0, .int .i64 a1] rfl (by (try simp only [List.map_toArray, List.map_cons, List.map_nil]); first | done | rfl | (simp only [List.length_drop, List.length_take]; rfl)) ?_; (with_reducible refine (num_Two.calls 4 a0 a1 t102 false _ A3.out).mono ?_); rintro e w409 ⟨rfl, hb⟩; refine ⟨_, rfl, ?_⟩; have n0_ := Aside0.mk (below_step (by repeat (first | (with_reducible first | exact HB.out | apply below_alloc | apply pw_below_drewN | apply below_drew1) | exact HB.out)) hb); clear HB; have HB := n0_; clear n0_ hb) | ((with_reducible refine gate_callee (f := 11) rfl ?_); refine goesL_ (some 23) rfl rfl Try.func11 (by kernel_rfl) rfl #[.int .i64 5, .int .i64 a0, .int .i64 a1] rfl (by (try simp only [List.map_toArray, List.map_cons, List.map_nil]); first | done | rfl | (simp only [List.length_drop, List.length_take]; rfl)) ?_; (with_reducible refine (num_Two.calls 5 a0 a1 t104 false _ A4.out).mono ?_); rintro e w410 ⟨rfl, hb⟩; refine ⟨_, rfl, ?_⟩; have n0_ := Aside0.mk (below_step (by repeat (first | (with_reducible first | exact HB.out | apply below_alloc | apply pw_below_drewN | apply below_drew1) | exact HB.out)) hb); clear HB; have HB := n0_; clear n0_ hb) | ((with_reducible refine gate_callee (f := 11) rfl ?_); refine goesL_ (some 46) rfl rfl Try.func11 (by kernel_rfl) rfl #[.int .i64 3, .int .i64 a1, .int .i64 t102] rfl (by (try simp only [List.map_toArray, List.map_cons, List.map_nil]); first | done | rfl | (simp only [List.length_drop, List.length_take]; rfl)) ?_; (with_reducible refine (num_Two.calls 3 a1 t102 t107 t108 _ A22.out).mono ?_); rintro e w411 ⟨rfl, hb⟩; refine ⟨_, rfl, ?_⟩; have n0_ := Aside0.mk (below_step (by repeat (first | (with_reducible first | exact HB.out | apply below_alloc | apply pw_below_drewN | apply below_drew1) | exact HB.out)) hb); clear HB; have HB := n0_; clear n0_ hb) | ((with_reducible refine gate_callee (f := 11) rfl ?_); refine goesL_ (some 52) rfl rfl Try.func11 (by kernel_rfl) rfl #[.int .i64 1, .int .i64 t107, .int .i64 t104] rfl (by (try simp only [List.map_toArray, List.map_cons, List.map_nil]); first | done | rfl | (simp only [List.length_drop, List.length_take]; rfl)) ?_; (with_reducible refine (num_Two.calls 1 t107 t104 t109 t110 _ A23.out).mono ?_); rintro e w412 ⟨rfl, hb⟩; refine ⟨_, rfl, ?_⟩; have n0_ := Aside0.mk (below_step (by repeat (first | (with_reducible first | exact HB.out | apply below_alloc | apply pw_below_drewN | apply below_drew1) | exact HB.out)) hb); clear HB; have HB := n0_; clear n0_ hb) | (go_at_call 19; (with_reducible refine (camshaftlaw01_known.calls  t136 _ A408.out).mono ?_); rintro e w413 ⟨rfl, hb⟩; have n0_ := Aside0.mk (below_step (by repeat (first | (with_reducible first | exact HB.out | apply below_alloc | apply pw_below_drewN | apply below_drew1) | exact HB.out)) hb); clear HB; have HB := n0_; clear n0_ hb))
                      go_ret
                      exact ⟨by first | rfl | (simp [errW_none, errW_some] <;> rfl) | (simp [*, errW_none, errW_some] <;> rfl), by repeat (first | (with_reducible first | exact HB.out | apply below_alloc | apply pw_below_drewN | apply below_drew1) | exact HB.out)⟩
                    · rw [if_neg c407] at H
                      have c407b0 : decide (0 < a0) = false := decide_eq_false c407
                      clear c407
                      obtain rfl := Option.some.inj H
                      cases hr
                · rw [if_neg c399] at H
                  have c399b0 : decide (0 ≤ t104) = false := decide_eq_false c399
                  clear c399
                  by_cases c418 : a0 < 0
                  · rw [if_pos c418] at H
                    have c418b0 : decide (a0 < 0) = true := decide_eq_true c418
                    clear c418
                    by_cases c419 : t104 ≤ 0
                    · rw [if_pos c419] at H
                      have c419b0 : decide (t104 ≤ 0) = true := decide_eq_true c419
                      clear c419
                      replace H := Option.bind_eq_some_iff.mp H
                      obtain ⟨t137, A4200, H⟩ := H
                      replace H : (some t137) = some r := H
                      have A420 := Aside0.mk A4200
                      clear A4200
                      obtain rfl := Option.some.inj H
                      go_enter Try.func4, Try.ntmps4
                      go_wp2_with (first | ((with_reducible refine gate_callee (f := 11) rfl ?_); refine goesL_ (some 17) rfl rfl Try.func11 (by kernel_rfl) rfl #[.int .i64 4, .int .i64 a0, .int .i64 a1] rfl (by (try simp only [List.map_toArray, List.map_cons, List.map_nil]); first | done | rfl | (simp only [List.length_drop, List.length_take]; rfl)) ?_; (with_reducible refine (num_Two.calls 4 a0 a1 t102 false _ A3.out).mono ?_); rintro e w421 ⟨rfl, hb⟩; refine ⟨_, rfl, ?_⟩; have n0_ := Aside0.mk (below_step (by repeat (first | (with_reducible first | exact HB.out | apply below_alloc | apply pw_below_drewN | apply below_drew1) | exact HB.out)) hb); clear HB; have HB := n0_; clear n0_ hb) | ((with_reducible refine gate_callee (f := 11) rfl ?_); refine goesL_ (some 23) rfl rfl Try.func11 (by kernel_rfl) rfl #[.int .i64 5, .int .i64 a0, .int .i64 a1] rfl (by (try simp only [List.map_toArray, List.map_cons, List.map_nil]); first | done | rfl | (simp only [List.length_drop, List.length_take]; rfl)) ?_; (with_reducible refine (num_Two.calls 5 a0 a1 t104 false _ A4.out).mono ?_); rintro e w422 ⟨rfl, hb⟩; refine ⟨_, rfl, ?_⟩; have n0_ := Aside0.mk (below_step (by repeat (first | (with_reducible first | exact HB.out | apply below_alloc | apply pw_below_drewN | apply below_drew1) | exact HB.out)) hb); clear HB; have HB := n0_; clear n0_ hb) | ((with_reducible refine gate_callee (f := 11) rfl ?_); refine goesL_ (some 46) rfl rfl Try.func11 (by kernel_rfl) rfl #[.int .i64 3, .int .i64 a1, .int .i64 t102] rfl (by (try simp only [List.map_toArray, List.map_cons, List.map_nil]); first | done | rfl | (simp only [List.length_drop, List.length_take]; rfl)) ?_; (with_reducible refine (num_Two.calls 3 a1 t102 t107 t108 _ A22.out).mono ?_); rintro e w423 ⟨rfl, hb⟩; refine ⟨_, rfl, ?_⟩; have n0_ := Aside0.mk (below_step (by repeat (first | (with_reducible first | exact HB.out | apply below_alloc | apply pw_below_drewN | apply below_drew1) | exact HB.out)) hb); clear HB; have HB := n0_; clear n0_ hb) | ((with_reducible refine gate_callee (f := 11) rfl ?_); refine goesL_ (some 52) rfl rfl Try.func11 (by kernel_rfl) rfl #[.int .i64 1, .int .i64 t107, .int .i64 t104] rfl (by (try simp only [List.map_toArray, List.map_cons, List.map_nil]); first | done | rfl | (simp only [List.length_drop, List.length_take]; rfl)) ?_; (with_reducible refine (num_Two.calls 1 t107 t104 t109 t110 _ A23.out).mono ?_); rintro e w424 ⟨rfl, hb⟩; refine ⟨_, rfl, ?_⟩; have n0_ := Aside0.mk (below_step (by repeat (first | (with_reducible first | exact HB.out | apply below_alloc | apply pw_below_drewN | apply below_drew1) | exact HB.out)) hb); clear HB; have HB := n0_; clear n0_ hb) | (go_at_call 19; (with_reducible refine (camshaftlaw01_known.calls  t137 _ A420.out).mono ?_); rintro e w425 ⟨rfl, hb⟩; have n0_ := Aside0.mk (below_step (by repeat (first | (with_reducible first | exact HB.out | apply below_alloc | apply pw_below_drewN | apply below_drew1) | exact HB.out)) hb); clear HB; have HB := n0_; clear n0_ hb))
                      go_ret
                      exact ⟨by first | rfl | (simp [errW_none, errW_some] <;> rfl) | (simp [*, errW_none, errW_some] <;> rfl), by repeat (first | (with_reducible first | exact HB.out | apply below_alloc | apply pw_below_drewN | apply below_drew1) | exact HB.out)⟩
                    · rw [if_neg c419] at H
                      have c419b0 : decide (t104 ≤ 0) = false := decide_eq_false c419
                      clear c419
                      by_cases c426 : a0 > 0
                      · rw [if_pos c426] at H
                        have c426b0 : decide (0 < a0) = true := decide_eq_true c426
                        clear c426
                        replace H := Option.bind_eq_some_iff.mp H
                        obtain ⟨t138, A4270, H⟩ := H
                        replace H : (some t138) = some r := H
                        have A427 := Aside0.mk A4270
                        clear A4270
                        obtain rfl := Option.some.inj H
                        go_enter Try.func4, Try.ntmps4
                        go_wp2_with (first | ((with_reducible refine gate_callee (f := 11) rfl ?_); refine goesL_ (some 17) rfl rfl Try.func11 (by kernel_rfl) rfl #[.int .i64 4, .int .i64 a0, .int .i64 a1] rfl (by (try simp only [List.map_toArray, List.map_cons, List.map_nil]); first | done | rfl | (simp only [List.length_drop, List.length_take]; rfl)) ?_; (with_reducible refine (num_Two.calls 4 a0 a1 t102 false _ A3.out).mono ?_); rintro e w428 ⟨rfl, hb⟩; refine ⟨_, rfl, ?_⟩; have n0_ := Aside0.mk (below_step (by repeat (first | (with_reducible first | exact HB.out | apply below_alloc | apply pw_below_drewN | apply below_drew1) | exact HB.out)) hb); clear HB; have HB := n0_; clear n0_ hb) | ((with_reducible refine gate_callee (f := 11) rfl ?_); refine goesL_ (some 23) rfl rfl Try.func11 (by kernel_rfl) rfl #[.int .i64 5, .int .i64 a0, .int .i64 a1] rfl (by (try simp only [List.map_toArray, List.map_cons, List.map_nil]); first | done | rfl | (simp only [List.length_drop, List.length_take]; rfl)) ?_; (with_reducible refine (num_Two.calls 5 a0 a1 t104 false _ A4.out).mono ?_); rintro e w429 ⟨rfl, hb⟩; refine ⟨_, rfl, ?_⟩; have n0_ := Aside0.mk (below_step (by repeat (first | (with_reducible first | exact HB.out | apply below_alloc | apply pw_below_drewN | apply below_drew1) | exact HB.out)) hb); clear HB; have HB := n0_; clear n0_ hb) | ((with_reducible refine gate_callee (f := 11) rfl ?_); refine goesL_ (some 46) rfl rfl Try.func11 (by kernel_rfl) rfl #[.int .i64 3, .int .i64 a1, .int .i64 t102] rfl (by (try simp only [List.map_toArray, List.map_cons, List.map_nil]); first | done | rfl | (simp only [List.length_drop, List.length_take]; rfl)) ?_; (with_reducible refine (num_Two.calls 3 a1 t102 t107 t108 _ A22.out).mono ?_); rintro e w430 ⟨rfl, hb⟩; refine ⟨_, rfl, ?_⟩; have n0_ := Aside0.mk (below_step (by repeat (first | (with_reducible first | exact HB.out | apply below_alloc | apply pw_below_drewN | apply below_drew1) | exact HB.out)) hb); clear HB; have HB := n0_; clear n0_ hb) | ((with_reducible refine gate_callee (f := 11) rfl ?_); refine goesL_ (some 52) rfl rfl Try.func11 (by kernel_rfl) rfl #[.int .i64 1, .int .i64 t107, .int .i64 t104] rfl (by (try simp only [List.map_toArray, List.map_cons, List.map_nil]); first | done | rfl | (simp only [List.length_drop, List.length_take]; rfl)) ?_; (with_reducible refine (num_Two.calls 1 t107 t104 t109 t110 _ A23.out).mono ?_); rintro e w431 ⟨rfl, hb⟩; refine ⟨_, rfl, ?_⟩; have n0_ := Aside0.mk (below_step (by repeat (first | (with_reducible first | exact HB.out | apply below_alloc | apply pw_below_drewN | apply below_drew1) | exact HB.out)) hb); clear HB; have HB := n0_; clear n0_ hb) | (go_at_call 19; (with_reducible refine (camshaftlaw01_known.calls  t138 _ A427.out).mono ?_); rintro e w432 ⟨rfl, hb⟩; have n0_ := Aside0.mk (below_step (by repeat (first | (with_reducible first | exact HB.out | apply below_alloc | apply pw_below_drewN | apply below_drew1) | exact HB.out)) hb); clear HB; have HB := n0_; clear n0_ hb))
                        go_ret
                        exact ⟨by first | rfl | (simp [errW_none, errW_some] <;> rfl) | (simp [*, errW_none, errW_some] <;> rfl), by repeat (first | (with_reducible first | exact HB.out | apply below_alloc | apply pw_below_drewN | apply below_drew1) | exact HB.out)⟩
                      · rw [if_neg c426] at H
                        have c426b0 : decide (0 < a0) = false := decide_eq_false c426
                        clear c426
                        obtain rfl := Option.some.inj H
                        cases hr
                  · rw [if_neg c418] at H
                    have c418b0 : decide (a0 < 0) = false := decide_eq_false c418
                    clear c418
                    obtain rfl := Option.some.inj H
                    cases hr
              · rw [if_neg c398] at H
                have c398b0 : (a1 == (-9223372036854775808)) = false := beq_eq_false_iff_ne.mpr c398
                have c398b1 : (a1 != (-9223372036854775808)) = true := bne_iff_ne.mpr c398
                obtain rfl := Option.some.inj H
                cases hr
        · rw [if_neg c387] at H
          have c387b0 : (t109 == a0) = false := beq_eq_false_iff_ne.mpr c387
          have c387b1 : (t109 != a0) = true := bne_iff_ne.mpr c387
          obtain rfl := Option.some.inj H
          cases hr

/-- THE ONE PURE STATEMENT of camshaftlaw01_NumDivides: yours. -/
def camshaftlaw01_NumDivides.Pure : Prop := ∀ (a0 : Int) (a1 : Int), (Lit.int .i64 a0).wf = true → (Lit.int .i64 a1).wf = true → camshaftlaw01_NumDivides.f a0 a1 = some true
theorem camshaftlaw01_NumDivides.walk (P : camshaftlaw01_NumDivides.Pure) (a0 : Int) (a1 : Int) (w : World) (w0 : (Lit.int .i64 a0).wf = true) (w1 : (Lit.int .i64 a1).wf = true) :
    Calls Try.prog 4 #[.int .i64 a0, .int .i64 a1] w fun e w' => e = .returned (.bool true) ∧ Below w.heap.size w w' := by
  have h := P a0 a1 w0 w1
  refine (camshaftlaw01_NumDivides.calls a0 a1 true w rfl h).mono ?_
  rintro e w' ⟨rfl, hd⟩
  exact ⟨rfl, hd⟩

end Go.Proofs.Ytbbfcfpbdgibaaa.Print
