/- PLAIN: sums, products and quotients by cases; the fixed calls answer as they must. -/
import Derived.Test.YtdkagkoglefncaaNatLaws
namespace Go.Proofs.Ytdkagkoglefncaa.Pure
open Go.RowKit Go.Proofs.Ytdkagkoglefncaa.Print Go.Proofs.YtdkagkoglefncaaW.PrintWords Go.Proofs.YtdkagkoglefncaaW.PrintLast
theorem known_true : camshaftlaw10_known.f = some true := rfl
theorem add_two (a b : Int) : add [a, b] = if Ok a ∧ Ok b then (if a + b < 4611686018427387904 then (a + b, 0) else (0, 4)) else (0, 1) := by
  have e : sum [a, b] = a + b := by show a + (b + 0) = a + b; omega
  unfold add
  rw [e]
  simp
theorem add_three (a b c : Int) : add [a, b, c] = if Ok a ∧ Ok b ∧ Ok c then (if a + b + c < 4611686018427387904 then (a + b + c, 0) else (0, 4)) else (0, 1) := by
  have e : sum [a, b, c] = a + b + c := by show a + (b + (c + 0)) = a + b + c; omega
  unfold add
  rw [e]
  simp
theorem mul_comm' (a b : Int) : mul a b = mul b a := by
  unfold mul
  rw [Int.mul_comm]
  by_cases ha : Ok a <;> by_cases hb : Ok b <;> simp [ha, hb]
/-- a quotient that is rounded up -/
theorem ceil_bounds (a b : Int) (hb : 0 < b) : a ≤ b * ((a + b - 1) / b) ∧ b * ((a + b - 1) / b) < a + b := by
  have h1 := Int.mul_ediv_add_emod (a + b - 1) b
  have h2 := Int.emod_nonneg (a + b - 1) (b := b) (by omega)
  have h3 := Int.emod_lt_of_pos (a + b - 1) hb
  omega
end Go.Proofs.Ytdkagkoglefncaa.Pure
