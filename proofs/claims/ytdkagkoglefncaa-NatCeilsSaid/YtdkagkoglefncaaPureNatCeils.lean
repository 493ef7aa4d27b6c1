/- The plain statement of NatCeils: a quotient that is rounded up is the least number that times the other one is not below the first one; one more of the first one makes it no less, and by one more at most. -/
import Derived.Test.YtdkagkoglefncaaPrint16
import Derived.Test.YtdkagkoglefncaaNatPure
namespace Go.Proofs.Ytdkagkoglefncaa.Pure
open Go.RowKit Go.Proofs.Ytdkagkoglefncaa.Print Go.Proofs.YtdkagkoglefncaaW.PrintWords Go.Proofs.YtdkagkoglefncaaW.PrintLast
open Best
theorem NatCeils : camshaftlaw10_NatCeils.Pure := by
  intro a b ha hb
  refine ⟨10, ?_⟩
  unfold camshaftlaw10_NatCeils.f
  rw [ceil_some _ _ _ (by omega), right_some, right_some]
  simp only [Option.bind_some, decide_eq_true_eq]
  have bad : ¬ (Ok a ∧ Ok b ∧ b ≠ 0) → camshaftlaw10_NatCeils.j0 10 a b (ceil a b).1 (ceil a b).2 true = some true := by
    intro h
    have e : ceil a b = (0, 1) := by unfold ceil; rw [if_neg h]
    rw [e]
    simp only [camshaftlaw10_NatCeils.j0, if_true]
    rw [known_true]
    rfl
  by_cases h1 : Ok a
  · rw [if_pos h1]
    by_cases h2 : Ok b
    · rw [if_pos h2]
      by_cases h3 : b = 0
      · have e : (b == 0) = true := beq_iff_eq.2 h3
        rw [e]
        exact bad (fun h => h.2.2 h3)
      · have e : (b == 0) = false := beq_eq_false_iff_ne.2 h3
        have ec : ceil a b = ((a + b - 1) / b, 0) := by unfold ceil; rw [if_pos ⟨h1, h2, h3⟩]
        rw [e, ec]
        have b1 := h1
        have b2 := h2
        unfold Ok at b1 b2
        obtain ⟨q1, q2⟩ := ceil_bounds a b (by omega)
        have q0 : 0 ≤ (a + b - 1) / b := Int.ediv_nonneg (by omega) (by omega)
        have q3 : (a + b - 1) / b ≤ a := by
          rcases Int.lt_or_le a ((a + b - 1) / b) with h | h
          · have hm : b * (a + 1) ≤ b * ((a + b - 1) / b) := Int.mul_le_mul_of_nonneg_left (by omega) (by omega)
            have hm2 : b * (a + 1) = b * a + b := by rw [Int.mul_add, Int.mul_one]
            have hm3 : 1 * a ≤ b * a := Int.mul_le_mul_of_nonneg_right (by omega) (by omega)
            omega
          · exact h
        have last : ∀ k, 4 ≤ k → camshaftlaw10_NatCeils.j1 (k + 1) a b ((a + b - 1) / b) false = some true := by
          intro k hk
          simp only [camshaftlaw10_NatCeils.j1, Bool.false_eq_true, if_false]
          have w : wrap64 (a + 1) = a + 1 := wrap_in (by omega)
          have w2 : wrap64 ((a + b - 1) / b + 1) = (a + b - 1) / b + 1 := wrap_in (by omega)
          rw [w, w2, ceil_some _ _ k (by omega), known_true]
          simp only [Option.bind_some]
          by_cases h4 : Ok (a + 1)
          · have e2 : ceil (a + 1) b = ((a + 1 + b - 1) / b, 0) := by unfold ceil; rw [if_pos ⟨h4, h2, h3⟩]
            obtain ⟨p1, p2⟩ := ceil_bounds (a + 1) b (by omega)
            have m1 : (a + b - 1) / b ≤ (a + 1 + b - 1) / b := Int.ediv_le_ediv (by omega) (by omega)
            have m2 : (a + 1 + b - 1) / b ≤ (a + b - 1) / b + 1 := by
              have hm : b * ((a + b - 1) / b + 1) = b * ((a + b - 1) / b) + b := by rw [Int.mul_add, Int.mul_one]
              exact Int.le_of_mul_le_mul_left (a := b) (by omega) (by omega)
            rw [e2]
            simp only [if_true]
            rw [if_pos m1, if_pos m2]
          · have e2 : ceil (a + 1) b = (0, 1) := by unfold ceil; rw [if_neg (fun h => h4 h.1)]
            rw [e2]
            rfl
        generalize hq : (a + b - 1) / b = q at *
        simp only [camshaftlaw10_NatCeils.j0, Bool.false_eq_true, if_false]
        rw [mul_some _ _ _ (by omega)]
        simp only [Option.bind_some, if_true]
        have hneg : decide (q < 0) = false := decide_eq_false (by omega)
        have fin : ∀ k, 4 ≤ k → (if q > 0 then (if wrap64 (b * wrap64 (q - 1)) ≥ a then camshaftlaw10_NatCeils.j1 (k + 1) a b q true else camshaftlaw10_NatCeils.j1 (k + 1) a b q (decide (q < 0))) else camshaftlaw10_NatCeils.j1 (k + 1) a b q (decide (q < 0))) = some true := by
          intro k hk
          rw [hneg]
          by_cases hp : q > 0
          · have w1 : wrap64 (q - 1) = q - 1 := wrap_in (by omega)
            have hm : b * (q - 1) = b * q - b := by rw [Int.mul_sub, Int.mul_one]
            have hm0 : 0 ≤ b * (q - 1) := Int.mul_nonneg (by omega) (by omega)
            rw [if_pos hp, w1, wrap_in (x := b * (q - 1)) (by omega), if_neg (by omega)]
            exact last k hk
          · rw [if_neg hp]
            exact last k hk
        by_cases hz : (mul q b).2 = 0
        · rw [if_pos hz]
          have hge : ¬ (mul q b).1 < a := by
            unfold mul at hz ⊢
            by_cases hqb : Ok q ∧ Ok b
            · rw [if_pos hqb] at hz ⊢
              by_cases hl : q * b < 4611686018427387904
              · rw [if_pos hl]
                have := Int.mul_comm q b
                show ¬ q * b < a
                omega
              · rw [if_neg hl] at hz
                exact absurd hz (by decide)
            · rw [if_neg hqb] at hz
              exact absurd hz (by decide)
          rw [if_neg hge]
          exact fin 8 (by omega)
        · rw [if_neg hz]
          exact fin 8 (by omega)
    · rw [if_neg h2]
      exact bad (fun h => h2 h.2.1)
  · rw [if_neg h1]
    exact bad (fun h => h1 h.1)

end Go.Proofs.Ytdkagkoglefncaa.Pure
