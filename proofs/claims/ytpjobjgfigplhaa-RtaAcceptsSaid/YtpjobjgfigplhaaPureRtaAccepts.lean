/- The plain statement of RtaAccepts: all are accepted just if each one has a response; the first one that has none is told; what is accepted with a lesser deadline of one is accepted with a greater one. -/
import Derived.Test.YtpjobjgfigplhaaRtaAcc
import Derived.Test.YtpjobjgfigplhaaPrint28
namespace Go.Proofs.Ytpjobjgfigplhaa.Pure
open Go.RowKit Go.Proofs.Ytpjobjgfigplhaa.Print Go.Proofs.YtpjobjgfigplhaaW.PrintWords Go.Proofs.YtpjobjgfigplhaaW.PrintLast
/-- the first of those from m on that has no response -/
def First (l : List S41) (m : Nat) (f : Int) : Prop := (f = -1 ∧ ∀ i, m ≤ i → i < l.length → (rs l i).2 = 0) ∨ (∃ j : Nat, f = (j : Int) ∧ m ≤ j ∧ j < l.length ∧ (rs l j).2 ≠ 0 ∧ ∀ i, m ≤ i → i < j → (rs l i).2 = 0)
theorem accepts_loop (l : List S41) (h : RightL l) (i more : Int) (x : List Int) (at_ e : Int) (ha : Acc l (x, at_, e)) (K0 : Nat) (hK : 1048700 ≤ K0)
    (fin : ∀ k f, K0 ≤ k → First l 0 f → camshaftlaw14_RtaAccepts.l0 k l i more x at_ e f (-1) = some true) :
    ∀ (m k : Nat) (f : Int), m ≤ l.length → m + K0 ≤ k → First l m f → camshaftlaw14_RtaAccepts.l0 k l i more x at_ e f ((m : Int) - 1) = some true := by
  have hl := h.2
  intro m
  induction m with
  | zero =>
    intro k f hm hk hf
    rw [show ((0 : Nat) : Int) - 1 = -1 by omega]
    exact fin k f (by omega) hf
  | succ m ih =>
    intro k f hm hk hf
    obtain ⟨k, rfl⟩ : ∃ m, k = m + 1 := ⟨k - 1, by omega⟩
    rw [show ((m + 1 : Nat) : Int) - 1 = (m : Int) by omega, camshaftlaw14_RtaAccepts.l0, if_pos (by omega), wrap_in (x := (m : Int) - 1) (by omega), resp_some l h m (by omega) k (by omega)]
    simp only [Option.bind_some]
    change (if (rs l m).2 = 0 then _ else _) = _
    have hx : e = 0 → (m : Int) < x.length ∧ rd x (m : Int) = (rs l m).1 := by
      intro he
      cases ha with
      | yes hy =>
        refine ⟨by simp; omega, ?_⟩
        rw [rd_nat, List.getD_eq_getElem?_getD, List.getElem?_map, List.getElem?_range (by omega)]
        rfl
      | no j hj hne _ => exact absurd he hne
    by_cases he : (rs l m).2 = 0
    · rw [if_pos he]
      have hf' : First l m f := by
        rcases hf with ⟨h1, h2⟩ | ⟨j, h1, h2, h3, h4, h5⟩
        · exact .inl ⟨h1, fun q hq hq2 => by
            rcases Nat.eq_or_lt_of_le hq with h6 | h6
            · rw [← h6]; exact he
            · exact h2 q h6 hq2⟩
        · exact .inr ⟨j, h1, by omega, h3, h4, fun q hq hq2 => by
            rcases Nat.eq_or_lt_of_le hq with h6 | h6
            · rw [← h6]; exact he
            · exact h5 q h6 hq2⟩
      by_cases h0 : e = 0
      · obtain ⟨h1, h2⟩ := hx h0
        rw [if_pos h0, if_neg (by omega), if_pos (by omega), if_pos h1, h2, if_pos (show (rs l m).1 = (resp (l.getD m z41) (others l m)).1 from rfl)]
        exact ih k f (by omega) (by omega) hf'
      · rw [if_neg h0]
        exact ih k f (by omega) (by omega) hf'
    · rw [if_neg he]
      have hf' : First l m (m : Int) := .inr ⟨m, rfl, Nat.le_refl _, by omega, he, fun q hq hq2 => by omega⟩
      by_cases h0 : e = 0
      · exfalso
        cases ha with
        | yes hy => exact he (hy m (by omega))
        | no j hj hne _ => exact hne h0
      · rw [if_neg h0]
        exact ih k _ (by omega) (by omega) hf'
theorem accepts_out (l : List S41) (i more : Int) (k : Nat) (hk : 301 ≤ k) : camshaftlaw14_RtaAccepts.j0 k l i more true = some true := by
  obtain ⟨k, rfl⟩ : ∃ m, k = m + 1 := ⟨k - 1, by omega⟩
  rw [camshaftlaw14_RtaAccepts.j0, if_pos rfl, known_at k (by omega)]
  rfl
theorem map_set_strip (l : List S41) (n : Nat) (hn : n < l.length) (r : S41) (h : strip r = strip (l.getD n z41)) : (l.set n r).map strip = l.map strip := by
  rw [List.map_set, h]
  rw [List.getD_eq_getElem?_getD, List.getElem?_eq_getElem hn]
  apply List.ext_getElem?
  intro j
  by_cases hj : j = n
  · subst hj
    rw [List.getElem?_set_self (by simpa using hn), List.getElem?_map, List.getElem?_eq_getElem hn]
    rfl
  · rw [List.getElem?_set_ne (fun e => hj e.symm)]
theorem getD_map_strip (l l' : List S41) (h : l'.map strip = l.map strip) (q : Nat) : strip (l'.getD q z41) = strip (l.getD q z41) := by
  have h1 := congrArg (fun m => m[q]?) h
  simp only [List.getElem?_map] at h1
  rw [List.getD_eq_getElem?_getD, List.getD_eq_getElem?_getD]
  cases ha : l'[q]? with
  | none => cases hb : l[q]? with
    | none => rfl
    | some y => rw [ha, hb] at h1; cases h1
  | some x => cases hb : l[q]? with
    | none => rw [ha, hb] at h1; cases h1
    | some y => rw [ha, hb] at h1; injection h1
theorem RtaAccepts (l : List S41) (i more : Int) (hm : (Lit.int .u8 more).wf = true) : ∃ k, camshaftlaw14_RtaAccepts.f k l i more = some true := by
  have hmore : 0 ≤ more ∧ more ≤ 255 := by simpa [Lit.wf, IntKind.min, IntKind.max, IntKind.signed, IntKind.bits] using hm
  obtain ⟨k1, b, hb, hlen⟩ := light_ends l
  obtain ⟨k, hk⟩ : ∃ k, k = max k1 2100000 := ⟨_, rfl⟩
  refine ⟨k, ?_⟩
  have hk2 : 2100000 ≤ k := by omega
  unfold camshaftlaw14_RtaAccepts.f
  rw [at_rounds (g := fun k => camshaftlaw14_light.f k l) (camshaftlaw14_light.mono l) (show k1 ≤ k by omega) hb]
  clear hk hb
  simp only [Option.bind_some]
  cases b with
  | false => rw [if_neg (by decide)]; exact accepts_out l i more k (by omega)
  | true =>
    rw [if_pos rfl]
    have hl := hlen rfl
    rw [right_some_l l (by omega) k (by omega)]
    simp only [Option.bind_some, decide_eq_true_eq]
    by_cases h : RightL l
    · rw [if_pos h]
      by_cases i0 : i < 0
      · rw [if_pos i0]; exact accepts_out l i more k (by omega)
      · rw [if_neg i0]
        by_cases i1 : i ≥ (l.length : Int)
        · rw [decide_eq_true i1]; exact accepts_out l i more k (by omega)
        · rw [decide_eq_false i1]
          obtain ⟨n, rfl⟩ := Int.eq_ofNat_of_zero_le (show 0 ≤ i by omega)
          have hi : n < l.length := by omega
          have hl8 := h.2
          obtain ⟨k, rfl⟩ : ∃ m, k = m + 1 := ⟨k - 1, by omega⟩
          obtain ⟨⟨x, at_, e⟩, hr, ha⟩ := acc_some l h
          rw [camshaftlaw14_RtaAccepts.j0, if_neg (by decide), hr k (by omega)]
          simp only [Option.bind_some]
          rw [show wrap64 ((l.length : Int) - 1) = ((l.length : Nat) : Int) - 1 from wrap_in (by omega)]
          refine accepts_loop l h n more x at_ e ha 1048800 (by omega) ?_ l.length k (-1) (Nat.le_refl _) (by omega) (.inl ⟨rfl, fun q hq hq2 => by omega⟩)
          intro k f hk hf
          obtain ⟨k, rfl⟩ : ∃ m, k = m + 1 := ⟨k - 1, by omega⟩
          rw [camshaftlaw14_RtaAccepts.l0, if_neg (by omega)]
          simp only [Option.bind_some, List.nil_append, List.length_nil]
          rw [if_pos (by omega), if_pos (by omega), if_pos (by omega), rd41, Int.toNat_natCast]
          have ho := h.1 _ (mem_getD l z41 n hi)
          obtain ⟨c0, c1, b0, b1, t0, t1, d0, d1, j0, j1, p0, p1⟩ := id ho
          generalize hW : (⟨(l.getD n z41).f0, (l.getD n z41).f1, (l.getD n z41).f2, mn 1048576 (wrap64 ((l.getD n z41).f3 + wrap64 more)), (l.getD n z41).f4, (l.getD n z41).f5⟩ : S41) = W
          have hWd : W.f3 = mn 1048576 ((l.getD n z41).f3 + more) := by
            rw [← hW, wrap_in (x := more) (by omega), wrap_in (by omega)]
          have hWs : strip W = strip (l.getD n z41) := by rw [← hW]; rfl
          have hW1 : (l.getD n z41).f3 ≤ W.f3 ∧ W.f3 ≤ 1048576 := by
            rw [hWd]; unfold mn; split <;> omega
          have hWok : RowOk W := by
            have e0 : W.f0 = (l.getD n z41).f0 := by rw [← hW]
            have e1 : W.f1 = (l.getD n z41).f1 := by rw [← hW]
            have e2 : W.f2 = (l.getD n z41).f2 := by rw [← hW]
            have e4 : W.f4 = (l.getD n z41).f4 := by rw [← hW]
            have e5 : W.f5 = (l.getD n z41).f5 := by rw [← hW]
            constructor <;> omega
          have hms := map_set_strip l n hi W hWs
          have hset : RightL (l.set n W) := by
            refine ⟨fun r hr => ?_, by simpa using hl8⟩
            rcases List.mem_or_eq_of_mem_set hr with h1 | h1
            · exact h.1 r h1
            · rw [h1]; exact hWok
          obtain ⟨⟨x', at', e'⟩, hr', ha'⟩ := acc_some _ hset
          rw [hr' k (by omega), known_at k (by omega)]
          simp only [Option.bind_some]
          cases ha with
          | yes hy =>
            have hf1 : f = -1 := by
              rcases hf with ⟨h1, _⟩ | ⟨j, _, _, h3, h4, _⟩
              · exact h1
              · exact absurd (hy j h3) h4
            have hg : e' = 0 := by
              cases ha' with
              | yes _ => rfl
              | no j hj hne _ =>
                exfalso
                rw [List.length_set] at hj
                apply hne
                unfold rs
                have hd : (l.getD j z41).f3 ≤ ((l.set n W).getD j z41).f3 := by
                  rw [List.getD_eq_getElem?_getD, List.getD_eq_getElem?_getD]
                  by_cases hjn : j = n
                  · rw [hjn, List.getElem?_set_self hi]
                    have := hW1.1
                    rw [List.getD_eq_getElem?_getD] at this
                    exact this
                  · rw [List.getElem?_set_ne (fun e => hjn e.symm)]
                    exact Int.le_refl _
                have hos : (others (l.set n W) j).map strip = (others l j).map strip := by
                  unfold others
                  have e5 : ((l.set n W).getD j z41).f5 = (l.getD j z41).f5 := by
                    have e : (strip ((l.set n W).getD j z41)).f5 = (strip (l.getD j z41)).f5 := by rw [getD_map_strip l _ hms j]
                    exact e
                  rw [e5, oth_strip, oth_strip, hms]
                exact resp_wide (allOk l h j hj) (allOk _ hset j (by simpa using hj)) (getD_map_strip l _ hms j) hos hd (hy j hj)
            rw [hf1, hg]
            rfl
          | no j hj hne hlt =>
            have hf1 : f = (j : Int) := by
              rcases hf with ⟨_, h2⟩ | ⟨q, h1, _, h3, h4, h5⟩
              · exact absurd (h2 j (Nat.zero_le _) hj) hne
              · rcases Nat.lt_trichotomy q j with h6 | h6 | h6
                · exact absurd (hlt q h6) h4
                · rw [h1, h6]
                · exact absurd (h5 j (Nat.zero_le _) h6) hne
            rw [if_pos hf1.symm]
            have hb : ((rs l j).2 == 0) = false := by simpa using hne
            rw [hb, decide_eq_false (by omega), if_pos (by decide), if_neg hne]
            rfl
    · rw [if_neg h]; exact accepts_out l i more k (by omega)
end Go.Proofs.Ytpjobjgfigplhaa.Pure
