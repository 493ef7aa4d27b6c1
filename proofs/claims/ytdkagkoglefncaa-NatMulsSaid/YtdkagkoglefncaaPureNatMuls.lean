/- The plain statement of NatMuls: a product of three may be made in any order, as far as none is 0, and all is right; a quotient of a product is the number. -/
import Derived.Test.YtdkagkoglefncaaPrint19
import Derived.Test.YtdkagkoglefncaaNatPure
namespace Go.Proofs.Ytdkagkoglefncaa.Pure
open Go.RowKit Go.Proofs.Ytdkagkoglefncaa.Print Go.Proofs.YtdkagkoglefncaaW.PrintWords Go.Proofs.YtdkagkoglefncaaW.PrintLast
open Best
theorem mul_zero_iff (a b : Int) : (mul a b).2 = 0 → Ok a ∧ Ok b ∧ a * b < 4611686018427387904 ∧ mul a b = (a * b, 0) := by
  intro h
  unfold mul at h ⊢
  by_cases hab : Ok a ∧ Ok b
  · rw [if_pos hab] at h ⊢
    by_cases hl : a * b < 4611686018427387904
    · rw [if_pos hl]
      exact ⟨hab.1, hab.2, hl, rfl⟩
    · rw [if_neg hl] at h
      exact absurd h (by decide)
  · rw [if_neg hab] at h
    exact absurd h (by decide)
theorem ceil_exact (x c : Int) (hx : Ok x) (hc : Ok c) (h : c > 0) (hl : x * c < 4611686018427387904) : ceil (x * c) c = (x, 0) := by
  have hm : 0 ≤ x * c := Int.mul_nonneg hx.1 hc.1
  have ho : Ok (x * c) := ⟨hm, hl⟩
  have hne : c ≠ 0 := by omega
  unfold ceil
  rw [if_pos ⟨ho, hc, hne⟩]
  have e : (x * c + c - 1) / c = x := by
    rw [show x * c + c - 1 = c - 1 + x * c by omega, Int.add_mul_ediv_right _ _ hne, Int.ediv_eq_zero_of_lt (by omega) (by omega)]
    omega
  rw [e]
theorem ceil_by_zero (a : Int) : ceil a 0 = (0, 1) := by
  unfold ceil
  rw [if_neg (fun h => h.2.2 rfl)]
theorem NatMuls : camshaftlaw10_NatMuls.Pure := by
  intro a b c ha hb hc
  refine ⟨10, ?_⟩
  unfold camshaftlaw10_NatMuls.f
  rw [mul_some _ _ _ (by omega), mul_some _ _ _ (by omega)]
  simp only [Option.bind_some]
  rw [mul_some _ _ _ (by omega), mul_some _ _ _ (by omega)]
  simp only [Option.bind_some]
  have bad : ∀ x y z w, camshaftlaw10_NatMuls.j0 10 a b c x y z w true = some true := by
    intro x y z w
    simp only [camshaftlaw10_NatMuls.j0, if_true]
    rw [known_true]
    rfl
  by_cases e1 : (mul a b).2 = 0
  · rw [if_pos e1]
    by_cases e2 : (mul b c).2 = 0
    · rw [if_pos e2]
      by_cases e3 : (mul (mul a b).1 c).2 = 0
      · obtain ⟨oa, ob, lab, hab⟩ := mul_zero_iff a b e1
        obtain ⟨_, oc, lbc, hbc⟩ := mul_zero_iff b c e2
        rw [hab] at e3 ⊢
        rw [hbc]
        obtain ⟨oab, _, labc, habc⟩ := mul_zero_iff (a * b) c e3
        simp only at habc e3 ⊢
        have hassoc : a * (b * c) = a * b * c := (Int.mul_assoc a b c).symm
        have obc : Ok (b * c) := ⟨Int.mul_nonneg ob.1 oc.1, lbc⟩
        have h2 : mul a (b * c) = (a * b * c, 0) := by
          unfold mul
          rw [if_pos ⟨oa, obc⟩, hassoc, if_pos labc]
        rw [habc, h2]
        simp only [bne_self_eq_false, camshaftlaw10_NatMuls.j0, Bool.false_eq_true, if_false]
        rw [ceil_some _ _ _ (by omega), ceil_some _ _ _ (by omega)]
        simp only [Option.bind_some, if_true]
        have c0 := oc.1
        have b0 := ob.1
        by_cases hc0 : c = 0
        · subst hc0
          simp only [if_true, ceil_by_zero]
          by_cases hb0 : b = 0
          · subst hb0
            simp only [if_true, ceil_by_zero, known_true, Option.bind_some]
          · rw [if_neg hb0, if_pos (by omega), ceil_exact a b oa ob (by omega) lab]
            simp only [if_true, known_true, Option.bind_some]
        · rw [if_neg hc0, if_pos (by omega), ceil_exact (a * b) c oab oc (by omega) labc]
          simp only [if_true]
          by_cases hb0 : b = 0
          · subst hb0
            simp only [if_true, ceil_by_zero, known_true, Option.bind_some]
          · rw [if_neg hb0, if_pos (by omega), ceil_exact a b oa ob (by omega) lab]
            simp only [if_true, known_true, Option.bind_some]
      · have hb : ((mul (mul a b).1 c).2 != 0) = true := by rw [bne_iff_ne]; exact e3
        rw [hb]
        exact bad _ _ _ _
    · rw [if_neg e2]
      exact bad _ _ _ _
  · rw [if_neg e1]
    exact bad _ _ _ _

end Go.Proofs.Ytdkagkoglefncaa.Pure
