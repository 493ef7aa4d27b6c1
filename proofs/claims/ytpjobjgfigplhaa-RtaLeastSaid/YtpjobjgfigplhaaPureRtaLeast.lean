/- The plain statement of RtaLeast: a response less the jitter is its own sum, and no lesser number is; where there is none, each number that is its own sum is too great. -/
import Derived.Test.YtpjobjgfigplhaaRtaResp
import Derived.Test.YtpjobjgfigplhaaPrint26
namespace Go.Proofs.Ytpjobjgfigplhaa.Pure
open Go.RowKit Go.Proofs.Ytpjobjgfigplhaa.Print Go.Proofs.YtpjobjgfigplhaaW.PrintWords Go.Proofs.YtpjobjgfigplhaaW.PrintLast
theorem least_loop (l : List S41) (h : RightL l) (i : Nat) (hi : i < l.length) (m : Nat) (hm : m ≤ 3000) (hno : ∀ v : Int, 0 ≤ v → v < m → ¬ (¬ Big (l.getD i z41) (others l i) v ∧ S (l.getD i z41) (others l i) v = v)) :
    ∀ (d w k : Nat), w + d = m → d + 400 < k → camshaftlaw14_RtaLeast.l0 k l (i : Int) (m : Int) (w : Int) = some true := by
  intro d
  induction d with
  | zero =>
    intro w k hw hk
    obtain ⟨k, rfl⟩ : ∃ m, k = m + 1 := ⟨k - 1, by omega⟩
    rw [camshaftlaw14_RtaLeast.l0, if_neg (by omega), known_at k (by omega)]
    rfl
  | succ d ih =>
    intro w k hw hk
    obtain ⟨k, rfl⟩ : ∃ m, k = m + 1 := ⟨k - 1, by omega⟩
    have hw1 : wrap64 ((w : Int) + 1) = ((w + 1 : Nat) : Int) := by rw [wrap_in (by omega)]; omega
    rw [camshaftlaw14_RtaLeast.l0, if_pos (by omega), next_some l h i hi w (by omega) (by omega) k (by omega)]
    simp only [Option.bind_some]
    have hn := hno w (by omega) (by omega)
    unfold nx
    by_cases hb : Big (l.getD i z41) (others l i) (w : Int)
    · rw [if_pos hb, if_neg (by decide), hw1, ih (w + 1) k (by omega) (by omega)]
    · rw [if_neg hb]
      simp only [if_true]
      rw [if_neg (fun e => hn ⟨hb, e⟩), hw1, ih (w + 1) k (by omega) (by omega)]
theorem least_end (l : List S41) (h : RightL l) (i : Nat) (hi : i < l.length) (m : Int) (hm0 : 0 ≤ m) (hm : m ≤ 3000) (hno : ∀ v : Int, 0 ≤ v → v < m → ¬ (¬ Big (l.getD i z41) (others l i) v ∧ S (l.getD i z41) (others l i) v = v)) (k : Nat) (hk : 4000 < k) :
    camshaftlaw14_RtaLeast.j1 k l (i : Int) m = some true := by
  obtain ⟨k, rfl⟩ : ∃ m, k = m + 1 := ⟨k - 1, by omega⟩
  obtain ⟨n, rfl⟩ := Int.eq_ofNat_of_zero_le hm0
  rw [camshaftlaw14_RtaLeast.j1]
  exact least_loop l h i hi n (by omega) hno n 0 k (by omega) (by omega)
theorem least_out (l : List S41) (i : Int) (k : Nat) (hk : 301 ≤ k) : camshaftlaw14_RtaLeast.j0 k l i true = some true := by
  obtain ⟨k, rfl⟩ : ∃ m, k = m + 1 := ⟨k - 1, by omega⟩
  rw [camshaftlaw14_RtaLeast.j0, if_pos rfl, known_at k (by omega)]
  rfl
theorem RtaLeast (l : List S41) (i : Int) : ∃ k, camshaftlaw14_RtaLeast.f k l i = some true := by
  obtain ⟨k1, b, hb, hlen⟩ := light_ends l
  obtain ⟨k, hk⟩ : ∃ k, k = max k1 1100000 := ⟨_, rfl⟩
  refine ⟨k, ?_⟩
  have hk2 : 1100000 ≤ k := by omega
  unfold camshaftlaw14_RtaLeast.f
  rw [at_rounds (g := fun k => camshaftlaw14_light.f k l) (camshaftlaw14_light.mono l) (show k1 ≤ k by omega) hb]
  clear hk hb
  simp only [Option.bind_some]
  cases b with
  | false => rw [if_neg (by decide)]; exact least_out l i k (by omega)
  | true =>
    rw [if_pos rfl]
    have hl := hlen rfl
    rw [right_some_l l (by omega) k (by omega)]
    simp only [Option.bind_some, decide_eq_true_eq]
    by_cases h : RightL l
    · rw [if_pos h]
      by_cases i0 : i < 0
      · rw [if_pos i0]; exact least_out l i k (by omega)
      · rw [if_neg i0]
        by_cases i1 : i ≥ (l.length : Int)
        · rw [decide_eq_true i1]; exact least_out l i k (by omega)
        · rw [decide_eq_false i1]
          obtain ⟨n, rfl⟩ := Int.eq_ofNat_of_zero_le (show 0 ≤ i by omega)
          have hi : n < l.length := by omega
          obtain ⟨k, rfl⟩ : ∃ m, k = m + 1 := ⟨k - 1, by omega⟩
          rw [camshaftlaw14_RtaLeast.j0, if_neg (by decide), resp_some l h n hi k (by omega)]
          simp only [Option.bind_some]
          rw [if_pos (by omega), if_pos (by omega), rd41]
          have ok := allOk l h n hi
          obtain ⟨⟨c0, c1, b0, b1, t0, t1, d0, d1, j0, j1, p0, p1⟩, _⟩ := id ok
          by_cases he : (resp (l.getD n z41) (others l n)).2 = 0
          · rw [if_pos he]
            obtain ⟨x, hx, x0, xb, xs, xd, xl⟩ := resp_yes ok he
            rw [hx]
            simp only
            have hn := next_some l h n hi x (by omega) (by omega) k (by omega)
            have ho : ∀ v : Int, 0 ≤ v → v < mn x 3000 → ¬ (¬ Big (l.getD n z41) (others l n) v ∧ S (l.getD n z41) (others l n) v = v) := by
              intro v v0 v1 hv
              have := xl v v0 (by unfold mn at v1; split at v1 <;> omega)
              omega
            have hend := least_end l h n hi (mn x 3000) (by unfold mn; split <;> omega) (by unfold mn; split <;> omega) ho k (by omega)
            generalize l.getD n z41 = o at *
            rw [show o.f4 + x - o.f4 = x by omega, wrap_in (x := x) (by omega), hn]
            simp only [Option.bind_some]
            unfold nx
            rw [if_neg xb, if_neg (by omega), if_neg (by omega)]
            simp only [if_true]
            rw [if_pos xs]
            exact hend
          · rw [if_neg he]
            obtain ⟨_, _, hno⟩ := resp_no ok he
            generalize hE : mn (mn (l.getD n z41).f3 3000) (wrap64 (wrap64 ((l.getD n z41).f3 - mn (l.getD n z41).f4 (l.getD n z41).f3) + 1)) = E
            have hE2 : E = mn (mn (l.getD n z41).f3 3000) ((l.getD n z41).f3 - mn (l.getD n z41).f4 (l.getD n z41).f3 + 1) := by
              rw [← hE, wrap_in (x := (l.getD n z41).f3 - mn (l.getD n z41).f4 (l.getD n z41).f3) (by unfold mn; split <;> omega), wrap_in (by unfold mn; split <;> omega)]
            refine least_end l h n hi E (by rw [hE2]; unfold mn; repeat' split
                                            all_goals omega) (by rw [hE2]; unfold mn; repeat' split
                                                                 all_goals omega) ?_ k (by omega)
            intro v v0 v1 hv
            have h1 := hno v v0 hv.1 (by omega)
            have h2 := S_pos ok v0
            have h3 := hv.2
            generalize l.getD n z41 = o at *
            rw [hE2] at v1
            unfold mn at v1
            repeat' split at v1
            all_goals omega
    · rw [if_neg h]; exact least_out l i k (by omega)
end Go.Proofs.Ytpjobjgfigplhaa.Pure
