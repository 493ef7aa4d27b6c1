/- The plain statement of NatOrders: sums and products may be made in any order, as far as all is right; a part of a sum that finds room finds room; what is added can be taken away. -/
import Derived.Test.YtdkagkoglefncaaPrint15
import Derived.Test.YtdkagkoglefncaaNatPure
namespace Go.Proofs.Ytdkagkoglefncaa.Pure
open Go.RowKit Go.Proofs.Ytdkagkoglefncaa.Print Go.Proofs.YtdkagkoglefncaaW.PrintWords Go.Proofs.YtdkagkoglefncaaW.PrintLast
open Best
theorem NatOrders : camshaftlaw10_NatOrders.Pure := by
  intro a b c ha hb hc
  have ra := in_of ha
  refine ⟨10, ?_⟩
  unfold camshaftlaw10_NatOrders.f
  rw [add_some _ (by simp) _ (by simp), add_some _ (by simp) _ (by simp), add_some _ (by simp) _ (by simp)]
  simp only [Option.bind_some]
  rw [add_some _ (by simp) _ (by simp), mul_some _ _ _ (by omega), mul_some _ _ _ (by omega), mul_comm' b a]
  simp only [Option.bind_some, if_true, bne_self_eq_false]
  have e : add [a, b, c] = add [c, a, b] := by
    rw [add_three, add_three, show c + a + b = a + b + c by omega]
    by_cases h1 : Ok a <;> by_cases h2 : Ok b <;> by_cases h3 : Ok c <;> simp [h1, h2, h3]
  rw [← e, if_pos rfl, if_pos rfl]
  have last : ∀ k, 4 ≤ k → camshaftlaw10_NatOrders.j1 (k + 1) a false = some true := by
    intro k hk
    simp only [camshaftlaw10_NatOrders.j1, Bool.false_eq_true, if_false]
    rw [mul_some _ _ k (by omega), mul_some _ _ k (by omega), right_some]
    simp only [Option.bind_some]
    unfold mul
    rw [Int.mul_one, Int.mul_zero, known_true]
    have o1 : Ok 1 := by decide
    have o0 : Ok 0 := by decide
    by_cases h : Ok a
    · have h2 : a < 4611686018427387904 := h.2
      simp [h, o1, o0, h2]
    · simp [h]
  simp only [camshaftlaw10_NatOrders.j0, Bool.false_eq_true, if_false]
  by_cases h : Ok a ∧ Ok b ∧ Ok c ∧ a + b + c < 4611686018427387904
  · obtain ⟨h1, h2, h3, h4⟩ := h
    have b1 := h1
    have b2 := h2
    have b3 := h3
    unfold Ok at b1 b2 b3
    have hab : Ok (a + b) := by unfold Ok; omega
    have x3 : add [a, b, c] = (a + b + c, 0) := by rw [add_three, if_pos ⟨h1, h2, h3⟩, if_pos h4]
    have x2 : add [a, b] = (a + b, 0) := by rw [add_two, if_pos ⟨h1, h2⟩, if_pos (by omega)]
    have x4 : add [(add [a, b]).1, c] = (a + b + c, 0) := by rw [x2, add_two, if_pos ⟨hab, h3⟩, if_pos h4]
    have w1 : wrap64 (a + b + c - c) = a + b := by rw [wrap_in (by omega)]; omega
    have w2 : wrap64 (wrap64 (a + b + c - b) - c) = a := by rw [wrap_in (x := a + b + c - b) (by omega), wrap_in (by omega)]; omega
    rw [x4, x3, x2]
    simp only [if_true, w1, w2, bne_self_eq_false]
    exact last 8 (by omega)
  · have x3 : ¬ (add [a, b, c]).2 = 0 := by
      rw [add_three]
      by_cases h1 : Ok a ∧ Ok b ∧ Ok c
      · rw [if_pos h1, if_neg (fun h2 => h ⟨h1.1, h1.2.1, h1.2.2, h2⟩)]; decide
      · rw [if_neg h1]; decide
    rw [if_neg x3]
    exact last 8 (by omega)

end Go.Proofs.Ytdkagkoglefncaa.Pure
