/- PLAIN: the program's response, and its answer on all tasks, are those of the recurrence. -/
import Derived.Test.YtpjobjgfigplhaaRtaNext
import Derived.Test.YtpjobjgfigplhaaPrint1
import Derived.Test.YtpjobjgfigplhaaPrint12
import Derived.Test.YtpjobjgfigplhaaPrint14
namespace Go.Proofs.Ytpjobjgfigplhaa.Pure
open Go.RowKit Go.Proofs.Ytpjobjgfigplhaa.Print Go.Proofs.YtpjobjgfigplhaaW.PrintWords Go.Proofs.YtpjobjgfigplhaaW.PrintLast
theorem allOk (l : List S41) (h : RightL l) (i : Nat) (hi : i < l.length) : AllOk (l.getD i z41) (others l i) := ⟨h.1 _ (mem_getD l z41 i hi), fun r hr => h.1 r (oth_mem hr)⟩
theorem resp_loop (l : List S41) (h : RightL l) (i : Nat) (hi : i < l.length) : ∀ (k : Nat) (w : Int) (r : Int × Int), 0 ≤ w → w ≤ 1048576 → it (l.getD i z41) (others l i) k w = some r → rta_Response.l0 (k + 60) l (i : Int) w = some r := by
  have ok := allOk l h i hi
  intro k
  induction k with
  | zero => intro w r _ _ hr; simp [it] at hr
  | succ k ih =>
    intro w r h0 h1 hr
    rw [show k + 1 + 60 = (k + 60) + 1 by omega, rta_Response.l0, next_some l h i hi w h0 (by omega) _ (by omega), rd41]
    simp only [Option.bind_some]
    unfold it at hr
    unfold nx
    have hp := S_pos ok h0
    have hc0 := ok.1.c0
    have hb0 := ok.1.b0
    have hd0 := ok.1.d0
    have hd1 := ok.1.d1
    have hj0 := ok.1.j0
    have hj1 := ok.1.j1
    generalize l.getD i z41 = o at *
    generalize others l i = os at *
    by_cases g1 : Big o os w
    · rw [if_pos g1] at hr ⊢
      rw [if_neg (by decide)]
      exact hr
    · rw [if_neg g1] at hr ⊢
      simp only [if_true]
      by_cases g2 : S o os w > o.f3
      · rw [if_pos (.inl g2)] at hr
        rw [if_pos g2]
        exact hr
      · rw [if_neg g2, wrap_in (x := o.f3 - S o os w) (by omega)]
        by_cases g3 : o.f4 > o.f3 - S o os w
        · rw [if_pos (.inr g3)] at hr
          rw [if_pos g3]
          exact hr
        · rw [if_neg (by omega)] at hr
          rw [if_neg g3]
          by_cases g4 : S o os w = w
          · rw [if_pos g4] at hr ⊢
            rw [wrap_in (by omega)]
            exact hr
          · rw [if_neg g4] at hr ⊢
            exact ih _ r (by omega) (by omega) hr
theorem resp_some (l : List S41) (h : RightL l) (i : Nat) (hi : i < l.length) (k : Nat) (hk : 1048640 ≤ k) : rta_Response.f k l (i : Int) = some (resp (l.getD i z41) (others l i)) := by
  have h1 := resp_loop l h i hi 1048580 0 _ (Int.le_refl _) (by omega) (it_resp (allOk l h i hi))
  refine at_rounds (g := fun k => rta_Response.f k l (i : Int)) (rta_Response.mono l (i : Int)) hk ?_
  unfold rta_Response.f
  rw [there_yes l h i hi _ (by omega)]
  simp only [Option.bind_some, if_true]
  rw [if_pos (by omega), if_pos (by omega)]
  exact h1
theorem resp_none (l : List S41) (hl : l.length ≤ 1000000) (i : Int) (h : ¬ (RightL l ∧ 0 ≤ i ∧ i < l.length)) (k : Nat) (hk : l.length < k) : rta_Response.f k l i = some (0, 1) := by
  unfold rta_Response.f
  rw [there_no l hl i h k hk]
  rfl
theorem next_none (l : List S41) (hl : l.length ≤ 1000000) (i w : Int) (h : ¬ (RightL l ∧ 0 ≤ i ∧ i < l.length ∧ Ok w)) (k : Nat) (hk : l.length + 10 < k) : rta_Next.f k l i w = some (0, 1) := by
  obtain ⟨k, rfl⟩ : ∃ m, k = m + 1 := ⟨k - 1, by omega⟩
  unfold rta_Next.f
  by_cases h1 : RightL l ∧ 0 ≤ i ∧ i < l.length
  · obtain ⟨n, rfl⟩ := Int.eq_ofNat_of_zero_le h1.2.1
    rw [there_yes l h1.1 n (by omega) _ (by omega)]
    simp only [Option.bind_some, if_true]
    rw [right_some, decide_eq_false (fun h2 => h ⟨h1.1, h1.2.1, h1.2.2, h2⟩)]
    simp only [Option.bind_some, Bool.not_false, rta_Next.j0, if_true]
  · rw [there_no l hl i h1 _ (by omega)]
    simp only [Option.bind_some, Bool.false_eq_true, if_false, rta_Next.j0, if_true]
theorem known_at (k : Nat) (hk : 300 ≤ k) : camshaftlaw14_known.f k = some true := at_rounds (g := fun k => camshaftlaw14_known.f k) camshaftlaw14_known.mono hk camshaftlaw14_known.tells
theorem light_ends (l : List S41) : ∃ k b, camshaftlaw14_light.f k l = some b ∧ (b = true → l.length ≤ 20) := by
  by_cases hl : (l.length : Int) > 20
  · exact ⟨0, false, by unfold camshaftlaw14_light.f; rw [if_pos hl], by simp⟩
  · have key : ∀ d j k : Nat, j + d = l.length → d < k → ∃ b, camshaftlaw14_light.l0 k l (j : Int) = some b := by
      intro d
      induction d with
      | zero =>
        intro j k hj hk
        obtain ⟨k, rfl⟩ : ∃ m, k = m + 1 := ⟨k - 1, by omega⟩
        simp only [camshaftlaw14_light.l0]
        rw [if_neg (by omega)]
        exact ⟨_, rfl⟩
      | succ d ih =>
        intro j k hj hk
        obtain ⟨k, rfl⟩ : ∃ m, k = m + 1 := ⟨k - 1, by omega⟩
        have w : wrap64 ((j : Int) + 1) = ((j + 1 : Nat) : Int) := by rw [wrap_in (by omega)]; omega
        simp only [camshaftlaw14_light.l0]
        rw [if_pos (by omega), if_pos (by omega), w]
        obtain ⟨b, hb⟩ := ih (j + 1) k (by omega) (by omega)
        rw [hb]
        split
        · split
          · exact ⟨_, rfl⟩
          · exact ⟨_, rfl⟩
        · exact ⟨_, rfl⟩
    obtain ⟨b, hb⟩ := key l.length 0 (l.length + 1) (by omega) (by omega)
    refine ⟨l.length + 1, b, ?_, fun _ => by omega⟩
    unfold camshaftlaw14_light.f
    rw [if_neg hl]
    exact hb
end Go.Proofs.Ytpjobjgfigplhaa.Pure
