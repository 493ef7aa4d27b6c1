/- Arrays of two bytes: how the walk compares them. -/
import Derived.Test.YtdmgndiglpcpfaaProg
import Derived.WalkKit
import Derived.RowKit
import Derived.KernelRfl
import Derived.Laws.StructEq
import Derived.ChangeKeysEq
namespace Go.Proofs.Ytdmgndiglpcpfaa.Crc
open Go.RowKit
theorem info5 : (Try.prog.info? 5).map (fun i => (i.zero, i.size, i.bytes)) = some (some (.int .u8 0), 1, 1) := by kernel_rfl
theorem cells5 : Try.prog.cellsOf 5 = 1 := by kernel_rfl
theorem eq38 (x0 x1 y0 y1 : Int) (W : World) : (binOp .eql 38 (.agg #[.int .u8 x0, .int .u8 x1]) (.agg #[.int .u8 y0, .int .u8 y1])).run Try.prog W = .ok (.bool (x0 == y0 && x1 == y1)) W := by
  obtain ⟨i, hi, _⟩ := Option.map_eq_some_iff.1 info5
  rw [run_eql_struct, run_equalIn_array W 9999 (e := 5) (n := 2) _ _ Try.underlying38 hi]
  have e5 : ∀ a b : Int, (Op.equalIn 9999 5 (.int .u8 a) (.int .u8 b)).run Try.prog W = .ok (a == b) W := fun a b => run_equalIn_int W 9998 5 .u8 .u8 a b Try.underlying5
  have p0 : ∀ a b : Value, (part 5 #[a, b] 0).run Try.prog W = .ok a W := by intro a b; kernel_rfl
  have p1 : ∀ a b : Value, (part 5 #[a, b] 1).run Try.prog W = .ok b W := by intro a b; kernel_rfl
  have r2 : List.range 2 = [0, 1] := rfl
  rw [r2, cells5]
  simp only [Op.eqItems, Sem.run_bind, Nat.zero_mul, p0, e5, Result.andThen_ok]
  cases h0 : x0 == y0 <;> cases h1 : x1 == y1 <;> simp [h1, p1, e5]
end Go.Proofs.Ytdmgndiglpcpfaa.Crc
