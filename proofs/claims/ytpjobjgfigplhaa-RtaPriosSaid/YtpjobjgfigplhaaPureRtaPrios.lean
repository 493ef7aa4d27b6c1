/- The plain statement of RtaPrios: a task hangs on none that is below it; alone it takes just its slots, its wait and its jitter; in which order the others stand makes no difference. -/
import Derived.Test.YtpjobjgfigplhaaRtaResp
import Derived.Test.YtpjobjgfigplhaaPrint27
namespace Go.Proofs.Ytpjobjgfigplhaa.Pure
open Go.RowKit Go.Proofs.Ytpjobjgfigplhaa.Print Go.Proofs.YtpjobjgfigplhaaW.PrintWords Go.Proofs.YtpjobjgfigplhaaW.PrintLast
theorem oth_append {p : Int} {i : Nat} : ∀ (a b : List S41) (j : Nat), oth p i j (a ++ b) = oth p i j a ++ oth p i (j + a.length) b := by
  intro a
  induction a with
  | nil => intro b j; rfl
  | cons x a ih =>
    intro b j
    rw [List.cons_append, oth, oth, ih, List.length_cons, show j + 1 + a.length = j + (a.length + 1) by omega]
    split
    · rfl
    · rfl
theorem oth_take {p : Int} {i : Nat} (l : List S41) (m : Nat) (hm : m < l.length) : oth p i 0 (l.take (m + 1)) = oth p i 0 (l.take m) ++ (if m = i ∨ (l.getD m z41).f5 < p then [] else [l.getD m z41]) := by
  have e : l.take (m + 1) = l.take m ++ [l.getD m z41] := by
    rw [List.getD_eq_getElem?_getD, List.getElem?_eq_getElem hm]
    exact List.take_succ_eq_append_getElem hm
  rw [e, oth_append, List.length_take, Nat.min_eq_left (by omega), Nat.zero_add, oth, oth]
theorem others_len (l : List S41) (i : Nat) (hi : i < l.length) : (others l i).length + 1 ≤ l.length := by
  rw [others_eq]
  have h1 := List.length_filter_le (fun r : S41 => !decide (r.f5 < (l.getD i z41).f5)) (l.eraseIdx i)
  rw [List.length_eraseIdx_of_lt hi] at h1
  omega
theorem oth_ge {p : Int} {i : Nat} {r : S41} : ∀ {l : List S41} {j : Nat}, r ∈ oth p i j l → p ≤ r.f5 := by
  intro l
  induction l with
  | nil => intro j h; cases h
  | cons x l ih =>
    intro j h
    unfold oth at h
    split at h
    · exact ih h
    · rcases List.mem_cons.1 h with rfl | h
      · omega
      · exact ih h
theorem others_above (o : S41) (os : List S41) (h : ∀ r ∈ os, o.f5 ≤ r.f5) : others (o :: os) 0 = os := by
  rw [others_eq]
  show os.filter (fun r => !decide (r.f5 < o.f5)) = os
  rw [List.filter_eq_self]
  intro r hr
  have := h r hr
  simp
  omega
theorem prios_loop (l : List S41) (hl : l.length ≤ 8) (i : Nat) (hi : i < l.length) (n e : Int) (K0 : Nat) (above : List S41) (al : Bool) (ha : above.length ≤ 100)
    (fin : ∀ k, K0 ≤ k → camshaftlaw14_RtaPrios.l0 k l (i : Int) n e above al (-1) = some true) :
    ∀ (m k : Nat) (acc : List S41) (b : Bool), m ≤ l.length → m + K0 ≤ k → acc ++ (oth (l.getD i z41).f5 i 0 (l.take m)).reverse = above → (b && (oth (l.getD i z41).f5 i 0 (l.take m)).isEmpty) = al →
      camshaftlaw14_RtaPrios.l0 k l (i : Int) n e acc b ((m : Int) - 1) = some true := by
  intro m
  induction m with
  | zero =>
    intro k acc b hm hk h1 h2
    rw [List.take_zero] at h1 h2
    have e1 : oth (l.getD i z41).f5 i 0 [] = [] := rfl
    rw [e1] at h1 h2
    simp at h1 h2
    rw [h1, h2, show ((0 : Nat) : Int) - 1 = -1 by omega]
    exact fin k (by omega)
  | succ m ih =>
    intro k acc b hm hk h1 h2
    obtain ⟨k, rfl⟩ : ∃ m, k = m + 1 := ⟨k - 1, by omega⟩
    rw [oth_take l m (by omega)] at h1 h2
    rw [show ((m + 1 : Nat) : Int) - 1 = (m : Int) by omega, camshaftlaw14_RtaPrios.l0, if_pos (by omega), wrap_in (x := (m : Int) - 1) (by omega)]
    by_cases hmi : m = i
    · rw [if_pos (.inl hmi)] at h1 h2
      rw [List.append_nil] at h1 h2
      rw [if_pos (by omega)]
      exact ih k acc b (by omega) (by omega) h1 h2
    · rw [if_neg (by omega), if_pos (by omega), if_pos (by omega), if_pos (by omega), if_pos (by omega), rd41, rd41]
      by_cases hp : (l.getD m z41).f5 < (l.getD i z41).f5
      · rw [if_pos (.inr hp)] at h1 h2
        rw [List.append_nil] at h1 h2
        rw [if_neg (by omega)]
        exact ih k acc b (by omega) (by omega) h1 h2
      · rw [if_neg (by omega)] at h1 h2
        rw [if_pos (by omega)]
        have hlen : acc.length ≤ above.length := by rw [← h1]; simp
        rw [if_pos (by omega)]
        refine ih k _ false (by omega) (by omega) ?_ ?_
        · rw [← h1]
          simp
        · rw [← h2]
          simp
theorem prios_out (l : List S41) (i : Int) (k : Nat) (hk : 301 ≤ k) : camshaftlaw14_RtaPrios.j0 k l i true = some true := by
  obtain ⟨k, rfl⟩ : ∃ m, k = m + 1 := ⟨k - 1, by omega⟩
  rw [camshaftlaw14_RtaPrios.j0, if_pos rfl, known_at k (by omega)]
  rfl
theorem RtaPrios (l : List S41) (i : Int) : ∃ k, camshaftlaw14_RtaPrios.f k l i = some true := by
  obtain ⟨k1, b, hb, hlen⟩ := light_ends l
  obtain ⟨k, hk⟩ : ∃ k, k = max k1 1100000 := ⟨_, rfl⟩
  refine ⟨k, ?_⟩
  have hk2 : 1100000 ≤ k := by omega
  unfold camshaftlaw14_RtaPrios.f
  rw [at_rounds (g := fun k => camshaftlaw14_light.f k l) (camshaftlaw14_light.mono l) (show k1 ≤ k by omega) hb]
  clear hk hb
  simp only [Option.bind_some]
  cases b with
  | false => rw [if_neg (by decide)]; exact prios_out l i k (by omega)
  | true =>
    rw [if_pos rfl]
    have hl := hlen rfl
    rw [right_some_l l (by omega) k (by omega)]
    simp only [Option.bind_some, decide_eq_true_eq]
    by_cases h : RightL l
    · rw [if_pos h]
      by_cases i0 : i < 0
      · rw [if_pos i0]; exact prios_out l i k (by omega)
      · rw [if_neg i0]
        by_cases i1 : i ≥ (l.length : Int)
        · rw [decide_eq_true i1]; exact prios_out l i k (by omega)
        · rw [decide_eq_false i1]
          obtain ⟨n, rfl⟩ := Int.eq_ofNat_of_zero_le (show 0 ≤ i by omega)
          have hi : n < l.length := by omega
          obtain ⟨k, rfl⟩ : ∃ m, k = m + 1 := ⟨k - 1, by omega⟩
          rw [camshaftlaw14_RtaPrios.j0, if_neg (by decide), resp_some l h n hi k (by omega)]
          simp only [Option.bind_some]
          rw [if_pos (by omega), if_pos (by omega), rd41]
          have ok := allOk l h n hi
          have hol := others_len l n hi
          have hl8 := h.2
          obtain ⟨⟨c0, c1, b0, b1, t0, t1, d0, d1, j0, j1, p0, p1⟩, _⟩ := id ok
          have hge : ∀ r ∈ others l n, (l.getD n z41).f5 ≤ r.f5 := fun r hr => oth_ge hr
          rw [show wrap64 ((l.length : Int) - 1) = ((l.length : Nat) : Int) - 1 from wrap_in (by omega)]
          refine prios_loop l h.2 n hi _ _ 1048700 (l.getD n z41 :: (others l n).reverse) (others l n).isEmpty (by simp; omega) ?_ l.length k _ true (Nat.le_refl _) (by omega) ?_ ?_
          · intro k hk
            obtain ⟨k, rfl⟩ : ∃ m, k = m + 1 := ⟨k - 1, by omega⟩
            rw [camshaftlaw14_RtaPrios.l0, if_neg (by omega)]
            have hR : RightL (l.getD n z41 :: (others l n).reverse) := by
              refine ⟨fun r hr => ?_, by simp; omega⟩
              rcases List.mem_cons.1 hr with rfl | hr
              · exact ok.1
              · exact ok.2 r (by simpa using hr)
            have hr := resp_some _ hR 0 (by simp) k (by omega)
            rw [show ((0 : Nat) : Int) = 0 from rfl] at hr
            rw [hr, others_above _ _ (fun r hr => hge r (by simpa using hr))]
            simp only [Option.bind_some]
            have e1 : ((l.getD n z41 :: (others l n).reverse).getD 0 z41) = l.getD n z41 := rfl
            rw [e1, resp_perm (List.reverse_perm _), if_pos rfl, if_pos rfl, known_at k (by omega)]
            simp only [Option.bind_some]
            by_cases he : (others l n).isEmpty = true
            · rw [if_pos he]
              by_cases hz : (resp (l.getD n z41) (others l n)).2 = 0
              · rw [if_pos hz, if_pos (by omega), if_pos (by omega), rd41]
                obtain ⟨x, hx, x0, xb, xs, xd, xl⟩ := resp_yes ok hz
                have hnil : others l n = [] := by simpa using he
                rw [hx]
                rw [hnil] at xs
                unfold S at xs
                have xs' : (l.getD n z41).f0 + (l.getD n z41).f1 = x := by
                  have e2 : sum ([].map (term (l.getD n z41).f5 x)) = 0 := rfl
                  rw [e2] at xs
                  omega
                generalize l.getD n z41 = o at *
                rw [wrap_in (x := o.f0 + o.f1) (by omega), wrap_in (by omega), if_pos (by simp only; omega)]
              · rw [if_neg hz]
            · rw [if_neg he]
          · rw [List.take_length]
            rfl
          · rw [List.take_length]
            simp [others]
    · rw [if_neg h]; exact prios_out l i k (by omega)
end Go.Proofs.Ytpjobjgfigplhaa.Pure
