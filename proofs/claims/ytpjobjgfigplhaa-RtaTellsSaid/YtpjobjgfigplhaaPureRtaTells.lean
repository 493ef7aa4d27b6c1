/- The plain statement of RtaTells: sums, responses, and whether all are accepted, or what is wrong, are as the document says. -/
import Derived.Test.YtpjobjgfigplhaaRtaRef
namespace Go.Proofs.Ytpjobjgfigplhaa.Pure
open Go.RowKit Go.Proofs.Ytpjobjgfigplhaa.Print Go.Proofs.YtpjobjgfigplhaaW.PrintWords Go.Proofs.YtpjobjgfigplhaaW.PrintLast
/-- RtaTells, the plain statement: sums, responses, and whether all are accepted, are as the document says. -/
theorem RtaTells (l : List S41) (i w : Int) : ∃ k, camshaftlaw14_RtaTells.f k l i w = some true := by
  obtain ⟨k1, b, hb, hlen⟩ := light_ends l
  obtain ⟨k, hk⟩ : ∃ k, k = max k1 4200000 := ⟨_, rfl⟩
  refine ⟨k, ?_⟩
  have hk2 : 4200000 ≤ k := by omega
  unfold camshaftlaw14_RtaTells.f
  rw [at_rounds (g := fun k => camshaftlaw14_light.f k l) (camshaftlaw14_light.mono l) (show k1 ≤ k by omega) hb, known_at k (by omega)]
  clear hk hb
  simp only [Option.bind_some]
  cases b with
  | false => rw [if_neg (by decide)]
  | true =>
    rw [if_pos rfl]
    have hl := hlen rfl
    rw [plain_some l (by omega) k (by omega), right_some_l l (by omega) k (by omega)]
    simp only [Option.bind_some]
    rw [ref_right l (by omega) k (by omega)]
    have hN : ∃ q, rta_Next.f k l i w = some q ∧ camshaftref14_Next.f k (l.map conv) i w = some q := by
      by_cases h : RightL l ∧ 0 ≤ i ∧ i < l.length ∧ Ok w
      · obtain ⟨h1, h2, h3, h4⟩ := h
        obtain ⟨n, rfl⟩ := Int.eq_ofNat_of_zero_le h2
        exact ⟨_, next_some l h1 n (by omega) w h4.1 h4.2 k (by omega), ref_next l h1 n (by omega) w h4.1 h4.2 k (by omega)⟩
      · exact ⟨_, next_none l (by omega) i w h k (by omega), ref_next_none l (by omega) i w h k (by omega)⟩
    have hR : ∃ q, rta_Response.f k l i = some q ∧ camshaftref14_Response.f k (l.map conv) i = some q := by
      by_cases h : RightL l ∧ 0 ≤ i ∧ i < l.length
      · obtain ⟨h1, h2, h3⟩ := h
        obtain ⟨n, rfl⟩ := Int.eq_ofNat_of_zero_le h2
        exact ⟨_, resp_some l h1 n (by omega) k (by omega), ref_resp l h1 n (by omega) k (by omega)⟩
      · exact ⟨_, resp_none l (by omega) i h k (by omega), ref_resp_none l (by omega) i h k (by omega)⟩
    have hA : ∃ q, rta_Accept.f k l = some q ∧ camshaftref14_Accept.f k (l.map conv) = some q ∧ q.1.length ≤ 1000 := by
      by_cases h : RightL l
      · obtain ⟨q, hq, hq2⟩ := acc_some l h
        obtain ⟨r, hr, hr2⟩ := ref_acc_loop l h l.length 0 k (by omega) (by omega) (fun i hi => by omega)
        refine ⟨q, hq k (by omega), ?_, ?_⟩
        · unfold camshaftref14_Accept.f
          rw [ref_right l (by omega) k (by omega), decide_eq_true h]
          simp only [Option.bind_some, if_true]
          rw [acc_one hq2 hr2]
          exact hr
        · cases hq2 with
          | yes _ => simp; omega
          | no j _ _ _ => simp
      · refine ⟨([], -1, 1), ?_, ?_, by simp⟩
        · unfold rta_Accept.f
          rw [right_some_l l (by omega) k (by omega), decide_eq_false h]
          rfl
        · unfold camshaftref14_Accept.f
          rw [ref_right l (by omega) k (by omega), decide_eq_false h]
          rfl
    obtain ⟨⟨a, e⟩, hN1, hN2⟩ := hN
    obtain ⟨⟨c, g⟩, hR1, hR2⟩ := hR
    obtain ⟨⟨x, n, m⟩, hA1, hA2, hx⟩ := hA
    rw [hN1, hN2, hR1, hR2, hA1, hA2]
    simp only [Option.bind_some, beq_self_eq_true, if_true]
    rw [same_self x (by simp only at hx; omega) k (by simp only at hx; omega)]
    rfl
end Go.Proofs.Ytpjobjgfigplhaa.Pure
