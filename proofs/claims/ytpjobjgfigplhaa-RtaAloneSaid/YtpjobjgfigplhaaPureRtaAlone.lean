/- The plain statement of RtaAlone: a task alone, with its priority, takes its slots, its wait and its jitter: it is accepted just if these are at most its deadline. -/
import Derived.Test.YtpjobjgfigplhaaRtaResp
import Derived.Test.YtpjobjgfigplhaaPrint29
namespace Go.Proofs.Ytpjobjgfigplhaa.Pure
open Go.RowKit Go.Proofs.Ytpjobjgfigplhaa.Print Go.Proofs.YtpjobjgfigplhaaW.PrintWords Go.Proofs.YtpjobjgfigplhaaW.PrintLast
theorem alone_S (o : S41) (w : Int) : S o [] w = o.f0 + o.f1 := by
  unfold S
  show o.f0 + o.f1 + 0 = _
  omega
theorem alone_Big (o : S41) (w : Int) : Big o [] w ↔ 4611686018427387904 ≤ o.f0 + o.f1 := by
  unfold Big
  rw [alone_S]
  simp
theorem RtaAlone (c b t d j p : Int) (k : Nat) (hk : 1048640 ≤ k) : camshaftlaw14_RtaAlone.f k c b t d j p = some true := by
  unfold camshaftlaw14_RtaAlone.f
  simp only [Option.bind_some]
  rw [right_some_l _ (by simp) k (by simp; omega), known_at k (by omega)]
  simp only [Option.bind_some]
  by_cases h : RightL [(⟨c, b, t, d, j, p⟩ : S41)]
  · rw [if_pos (decide_eq_true h)]
    have hr := resp_some _ h 0 (by simp) k hk
    rw [show ((0 : Nat) : Int) = 0 from rfl] at hr
    rw [hr]
    simp only [Option.bind_some]
    have ok := allOk _ h 0 (by simp)
    have e1 : ([(⟨c, b, t, d, j, p⟩ : S41)].getD 0 z41) = ⟨c, b, t, d, j, p⟩ := rfl
    have e2 : others [(⟨c, b, t, d, j, p⟩ : S41)] 0 = [] := by rw [others_eq]; rfl
    rw [e1, e2] at ok ⊢
    obtain ⟨⟨c0, c1, b0, b1, t0, t1, d0, d1, j0, j1, p0, p1⟩, _⟩ := id ok
    simp only at c0 c1 b0 b1 t0 t1 d0 d1 j0 j1 p0 p1
    have w1 : c ≤ d → wrap64 (d - c) = d - c := fun h => wrap_in (by omega)
    have w2 : c ≤ d → b ≤ d - c → wrap64 (d - c - b) = d - c - b := fun h1 h2 => wrap_in (by omega)
    by_cases fits : c ≤ d ∧ b ≤ d - c ∧ j ≤ d - c - b
    · obtain ⟨f1, f2, f3⟩ := fits
      obtain ⟨n, hn, hle⟩ := resp_le ok (x := c + b) (by omega) (by rw [alone_Big]; simp only; omega) (by rw [alone_S]; exact Int.le_refl _) (by simp only; omega)
      have he : (resp (⟨c, b, t, d, j, p⟩ : S41) []).2 = 0 := by rw [hn]
      obtain ⟨x, hx, _, _, hs, _⟩ := resp_yes ok he
      rw [alone_S] at hs
      simp only at hs hx
      have hv : resp (⟨c, b, t, d, j, p⟩ : S41) [] = (c + b + j, 0) := by rw [hx, ← hs]; congr 1; omega
      rw [hv]
      rw [w1 f1, w2 f1 f2, wrap_in (x := c + b) (by omega), wrap_in (x := c + b + j) (by omega)]
      simp [f1, f2, f3]
    · have he : (resp (⟨c, b, t, d, j, p⟩ : S41) []).2 ≠ 0 := by
        intro he
        obtain ⟨x, hx, _, _, hs, hd, _⟩ := resp_yes ok he
        rw [alone_S] at hs
        simp only at hs hd
        omega
      obtain ⟨v1, v2, _⟩ := resp_no ok he
      generalize resp (⟨c, b, t, d, j, p⟩ : S41) [] = q at *
      obtain ⟨n, e⟩ := q
      simp only at v1 v2 he ⊢
      have hb : (e == 0) = false := by simpa using he
      rw [hb]
      by_cases f1 : c ≤ d
      · rw [if_pos f1, w1 f1]
        by_cases f2 : b ≤ d - c
        · rw [if_pos f2, w2 f1 f2]
          have f3 : ¬ j ≤ d - c - b := fun f3 => fits ⟨f1, f2, f3⟩
          rw [decide_eq_false f3, if_neg f3, if_neg f3]
          rcases v2 with rfl | rfl
          · rfl
          · rfl
        · rw [if_neg f2]
          rcases v2 with rfl | rfl
          · rfl
          · rfl
      · rw [if_neg f1]
        rcases v2 with rfl | rfl
        · rfl
        · rfl
  · rw [if_neg (by rw [decide_eq_false h]; decide)]
end Go.Proofs.Ytpjobjgfigplhaa.Pure
