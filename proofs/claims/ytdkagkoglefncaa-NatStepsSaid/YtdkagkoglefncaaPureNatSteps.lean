/- The plain statement of NatSteps: a quotient by one more is no greater; a sum with 0 is the number, if it is one; of two numbers one is the greatest and the other one the least. -/
import Derived.Test.YtdkagkoglefncaaPrint21
import Derived.Test.YtdkagkoglefncaaNatPure
namespace Go.Proofs.Ytdkagkoglefncaa.Pure
open Go.RowKit Go.Proofs.Ytdkagkoglefncaa.Print Go.Proofs.YtdkagkoglefncaaW.PrintWords Go.Proofs.YtdkagkoglefncaaW.PrintLast
open Best
theorem ceil_down (a b : Int) (hb : -9223372036854775808 ≤ b ∧ b ≤ 9223372036854775807) (h1 : (ceil a b).2 = 0) (h2 : (ceil a (wrap64 (b + 1))).2 = 0) : (ceil a (wrap64 (b + 1))).1 ≤ (ceil a b).1 := by
  unfold ceil at *
  by_cases h : Ok a ∧ Ok b ∧ b ≠ 0
  · by_cases g : Ok a ∧ Ok (wrap64 (b + 1)) ∧ wrap64 (b + 1) ≠ 0
    · rw [if_pos h, if_pos g]
      obtain ⟨⟨a1, a2⟩, ⟨b1, b2⟩, b3⟩ := h
      have w : wrap64 (b + 1) = b + 1 := wrap_in (by omega)
      rw [w]
      show (a + (b + 1) - 1) / (b + 1) ≤ (a + b - 1) / b
      have q1 := (ceil_bounds a b (by omega)).1
      have q0 : 0 ≤ (a + b - 1) / b := Int.ediv_nonneg (by omega) (by omega)
      generalize (a + b - 1) / b = q at *
      have e : (q + 1) * (b + 1) = b * q + q + b + 1 := by rw [Int.add_mul, Int.mul_add, Int.mul_comm q b]; omega
      have : (a + (b + 1) - 1) / (b + 1) < q + 1 := Int.ediv_lt_of_lt_mul (by omega) (by omega)
      omega
    · rw [if_neg g] at h2
      exact absurd h2 (by decide)
  · rw [if_neg h] at h1
    exact absurd h1 (by decide)
theorem add_zero' (a : Int) : ((add [a, 0]).2 == 0) = decide (Ok a) ∧ ((add [a, 0]).2 = 0 → (add [a, 0]).1 = a) := by
  rw [add_two]
  have o0 : Ok 0 := by decide
  by_cases h : Ok a
  · have h2 := h.2
    rw [if_pos ⟨h, o0⟩, if_pos (by omega), decide_eq_true h]
    exact ⟨rfl, fun _ => by show a + 0 = a; omega⟩
  · rw [if_neg (fun g => h g.1), decide_eq_false h]
    exact ⟨rfl, fun g => absurd g (by decide)⟩
theorem most_two (a b : Int) : bestL gt [a, b] = if b > a then b else a := by
  show (if gt b a = true then some b else some a).getD 0 = _
  unfold gt
  by_cases h : b > a
  · rw [if_pos h, if_pos (decide_eq_true h)]; rfl
  · rw [if_neg h, if_neg (by rw [decide_eq_true_eq]; exact h)]; rfl
theorem least_two (a b : Int) : bestL lt [a, b] = if b < a then b else a := by
  show (if lt b a = true then some b else some a).getD 0 = _
  unfold lt
  by_cases h : b < a
  · rw [if_pos h, if_pos (decide_eq_true h)]; rfl
  · rw [if_neg h, if_neg (by rw [decide_eq_true_eq]; exact h)]; rfl
theorem NatSteps : camshaftlaw10_NatSteps.Pure := by
  intro a b ha hb
  have rb := in_of hb
  refine ⟨10, ?_⟩
  have em : nat_Most.f [a, b] = some (bestL gt [a, b]) := rfl
  have el : nat_Least.f [a, b] = some (bestL lt [a, b]) := rfl
  have hc := ceil_down a b rb
  obtain ⟨a1, a2⟩ := add_zero' a
  unfold camshaftlaw10_NatSteps.f
  rw [ceil_some _ _ _ (by omega), ceil_some _ _ _ (by omega), add_some _ (by simp) _ (by simp), em, el, right_some, most_two, least_two, known_true]
  simp only [Option.bind_some, a1, beq_self_eq_true, if_true]
  clear ha hb rb em el
  generalize ceil a b = x at *
  generalize ceil a (wrap64 (b + 1)) = y at *
  generalize add [a, 0] = z at *
  obtain ⟨m, l, hm, hl, hml⟩ : ∃ m l : Int, m = (if b > a then b else a) ∧ l = (if b < a then b else a) ∧ ((m = a ∧ l = b ∨ m = b ∧ l = a) ∧ l ≤ m) := by
    refine ⟨_, _, rfl, rfl, ?_⟩
    by_cases h1 : b > a
    · rw [if_pos h1, if_neg (by omega)]; omega
    · rw [if_neg h1]
      by_cases h2 : b < a
      · rw [if_pos h2]; omega
      · rw [if_neg h2]; omega
  rw [← hm, ← hl]
  clear hm hl a1
  repeat' split
  all_goals first | rfl | (exfalso; first | omega | (rename_i h_; exact h_ (a2 (by assumption))) | (have := hc (by assumption) (by assumption); omega) | (have := a2 (by assumption); omega))
end Go.Proofs.Ytdkagkoglefncaa.Pure
