/- PLAIN: what the operations come to, one by one; the fixed calls answer as they must. -/
import Derived.Test.YtbbfcfpbdgibaaaPrint1
import Derived.Test.YtbbfcfpbdgibaaaPrint9
import Derived.Test.YtbbfcfpbdgibaaaNumLaws
namespace Go.Proofs.Ytbbfcfpbdgibaaa.Pure
open Go.RowKit Go.Proofs.Ytbbfcfpbdgibaaa.Print Go.Proofs.YtbbfcfpbdgibaaaW.PrintWords Go.Proofs.YtbbfcfpbdgibaaaW.PrintLast NumLaws Num
theorem known_true : camshaftlaw01_known.f = some true := rfl
theorem in_of {a : Int} (h : (Lit.int .i64 a).wf = true) : In a := by
  unfold In
  simpa [Lit.wf, IntKind.min, IntKind.max, IntKind.signed, IntKind.bits] using h
theorem byte_of {a : Int} (h : (Lit.int .u8 a).wf = true) : 0 ≤ a ∧ a ≤ 255 := by
  simpa [Lit.wf, IntKind.min, IntKind.max, IntKind.signed, IntKind.bits] using h
theorem t1 (a b : Int) : num_Two.f 1 a b = some (wrap64 (a + b), false) := rfl
theorem t2 (a b : Int) : num_Two.f 2 a b = some (wrap64 (a - b), false) := rfl
theorem t3 (a b : Int) : num_Two.f 3 a b = some (wrap64 (a * b), false) := rfl
theorem t6 (a b : Int) : num_Two.f 6 a b = some (bits .and .i64 a b, false) := rfl
theorem t7 (a b : Int) : num_Two.f 7 a b = some (bits .or .i64 a b, false) := rfl
theorem t8 (a b : Int) : num_Two.f 8 a b = some (bits .xor .i64 a b, false) := rfl
theorem t9 (a b : Int) : num_Two.f 9 a b = some (wrap64 (a * 2 ^ (b % 64).toNat), false) := rfl
theorem t10 (a b : Int) : num_Two.f 10 a b = some (a / 2 ^ (b % 64).toNat, false) := rfl
theorem t11 (a b : Int) : num_Two.f 11 a b = some (b2i (decide (a < b)), false) := rfl
theorem t12 (a b : Int) : num_Two.f 12 a b = some (b2i (a == b), false) := rfl
end Go.Proofs.Ytbbfcfpbdgibaaa.Pure
