/- PLAIN: the document's sum of a task, its response, and its answer on all tasks are those of the recurrence. -/
import Derived.Test.YtpjobjgfigplhaaRtaRefNat
import Derived.Test.YtpjobjgfigplhaaPrint25
namespace Go.Proofs.Ytpjobjgfigplhaa.Pure
open Go.RowKit Go.Proofs.Ytpjobjgfigplhaa.Print Go.Proofs.YtpjobjgfigplhaaW.PrintWords Go.Proofs.YtpjobjgfigplhaaW.PrintLast
def conv (r : S41) : S47 := ⟨r.f0, r.f1, r.f2, r.f3, r.f4, r.f5⟩
theorem rd47 (l : List S41) (j : Nat) (h : j < l.length) : rd_T47 (l.map conv) (j : Int) = conv (l.getD j z41) := by
  unfold rd_T47
  rw [Int.toNat_natCast, List.getD_eq_getElem?_getD, List.getD_eq_getElem?_getD, List.getElem?_map, List.getElem?_eq_getElem h]
  rfl
theorem plain_loop (l : List S41) (hl : l.length ≤ 1000000) : ∀ d j k : Nat, j + d = l.length → d < k → camshaftlaw14_Plain.l0 k l ((l.take j).map conv) (j : Int) = some (l.map conv) := by
  intro d
  induction d with
  | zero =>
    intro j k hj hk
    obtain ⟨k, rfl⟩ : ∃ m, k = m + 1 := ⟨k - 1, by omega⟩
    rw [camshaftlaw14_Plain.l0, if_neg (by omega), List.take_of_length_le (by omega)]
  | succ d ih =>
    intro j k hj hk
    obtain ⟨k, rfl⟩ : ∃ m, k = m + 1 := ⟨k - 1, by omega⟩
    have hw : wrap64 ((j : Int) + 1) = ((j + 1 : Nat) : Int) := by rw [wrap_in (by omega)]; omega
    rw [camshaftlaw14_Plain.l0, if_pos (by omega), if_pos (by omega), if_pos (by simp; omega), hw, rd41, ← ih (j + 1) k (by omega) (by omega)]
    have e : l.take (j + 1) = l.take j ++ [l.getD j z41] := by
      rw [List.getD_eq_getElem?_getD, List.getElem?_eq_getElem (by omega)]
      exact List.take_succ_eq_append_getElem (by omega)
    rw [e, List.map_append]
    rfl
theorem plain_some (l : List S41) (hl : l.length ≤ 1000000) (k : Nat) (hk : l.length < k) : camshaftlaw14_Plain.f k l = some (l.map conv) := plain_loop l hl l.length 0 k (by omega) hk
theorem ref_right_loop (l : List S41) (hl : l.length ≤ 1000000) : ∀ d j k : Nat, j + d = l.length → d < k → camshaftref14_Right.l0 k (l.map conv) (j : Int) = some (decide ((∀ r ∈ l.drop j, RowOk r) ∧ l.length ≤ 8)) := by
  intro d
  induction d with
  | zero =>
    intro j k hj hk
    obtain ⟨k, rfl⟩ : ∃ m, k = m + 1 := ⟨k - 1, by omega⟩
    rw [camshaftref14_Right.l0, List.length_map, if_neg (by omega), List.drop_of_length_le (by omega)]
    congr 1
    rw [decide_eq_decide]
    simp
    omega
  | succ d ih =>
    intro j k hj hk
    obtain ⟨k, rfl⟩ : ∃ m, k = m + 1 := ⟨k - 1, by omega⟩
    have hlt : j < l.length := by omega
    have hw : wrap64 ((j : Int) + 1) = ((j + 1 : Nat) : Int) := by rw [wrap_in (by omega)]; omega
    rw [camshaftref14_Right.l0, List.length_map, if_pos (by omega), if_pos (by omega), rd47 l j hlt, hw, ih (j + 1) k (by omega) (by omega), drop_cons l z41 j hlt]
    simp only [right_ref, Option.bind_some, decide_eq_true_eq]
    have q0 : (conv (l.getD j z41)).f0 = (l.getD j z41).f0 := rfl
    have q1 : (conv (l.getD j z41)).f1 = (l.getD j z41).f1 := rfl
    have q2 : (conv (l.getD j z41)).f2 = (l.getD j z41).f2 := rfl
    have q3 : (conv (l.getD j z41)).f3 = (l.getD j z41).f3 := rfl
    have q4 : (conv (l.getD j z41)).f4 = (l.getD j z41).f4 := rfl
    have q5 : (conv (l.getD j z41)).f5 = (l.getD j z41).f5 := rfl
    by_cases h : RowOk (l.getD j z41)
    · have e : (((∀ r ∈ l.getD j z41 :: l.drop (j + 1), RowOk r) ∧ l.length ≤ 8)) ↔ ((∀ r ∈ l.drop (j + 1), RowOk r) ∧ l.length ≤ 8) := by
        simp only [List.mem_cons, forall_eq_or_imp, h, true_and]
      obtain ⟨c0, c1, b0, b1, t0, t1, d0, d1, j0, j1, p0, p1⟩ := h
      rw [if_pos (show Ok _ from ⟨by omega, by omega⟩), if_pos (show Ok _ from ⟨by omega, by omega⟩), if_pos (show Ok _ from ⟨by omega, by omega⟩), if_pos (show Ok _ from ⟨by omega, by omega⟩), if_neg (by omega), if_neg (by omega), if_neg (by omega), if_neg (by omega), if_neg (by omega), if_neg (by omega)]
      congr 1
      rw [decide_eq_decide]
      exact e.symm
    · have e : ¬ ((∀ r ∈ l.getD j z41 :: l.drop (j + 1), RowOk r) ∧ l.length ≤ 8) := fun h2 => h (h2.1 _ List.mem_cons_self)
      rw [decide_eq_false e]
      repeat' split
      all_goals first
        | rfl
        | (exfalso
           rename_i g1 g2 g3 g4 g5 g6 g7 g8 g9 g10
           unfold Ok at g1 g2 g3 g4
           exact h (by constructor <;> omega))
theorem ref_right (l : List S41) (hl : l.length ≤ 1000000) (k : Nat) (hk : l.length < k) : camshaftref14_Right.f k (l.map conv) = some (decide (RightL l)) := by
  have h := ref_right_loop l hl l.length 0 k (by omega) hk
  unfold camshaftref14_Right.f
  rw [show (0 : Int) = ((0 : Nat) : Int) from rfl, h, List.drop_zero]
  rfl
theorem part_eq (r : S41) (w p : Int) (k : Nat) (hk : 3 ≤ k) : camshaftref14_part.f k r.f0 r.f1 r.f2 r.f3 r.f4 r.f5 w (r.f5 == p) = rta_Row_adds.f k r.f0 r.f1 r.f2 r.f3 r.f4 r.f5 w p := by
  unfold camshaftref14_part.f rta_Row_adds.f
  rw [add_some _ (by simp) k (by simp; omega), add_ref _ (by simp) k (by simp; omega)]
  simp only [Option.bind_some, beq_iff_eq, ceil_some _ _ k (show 1 ≤ k by omega), ceil_ref _ _ k (show 1 ≤ k by omega), mul_some _ _ k (show 2 ≤ k by omega), mul_ref _ _ k (show 1 ≤ k by omega)]
theorem ref_next_loop (l : List S41) (hl : l.length ≤ 8) (ok : ∀ r ∈ l, RowOk r) (i : Nat) (hi : i < l.length) (w : Int) (hw0 : 0 ≤ w) (hw1 : w < 4611686018427387904) : ∀ (d j k : Nat) (xs : List Int), j + d = l.length → (∀ x ∈ xs, Ok x) → xs.length + d ≤ 20 → 3 * d + 30 < k →
    camshaftref14_Next.l0 k (l.map conv) (i : Int) w xs (j : Int) =
      some (if (∃ r ∈ oth (l.getD i z41).f5 i j (l.drop j), 4611686018427387904 ≤ w + r.f4) ∨ 4611686018427387904 ≤ sum xs + sum ((oth (l.getD i z41).f5 i j (l.drop j)).map (term (l.getD i z41).f5 w)) then (0, 4) else (sum xs + sum ((oth (l.getD i z41).f5 i j (l.drop j)).map (term (l.getD i z41).f5 w)), 0)) := by
  intro d
  induction d with
  | zero =>
    intro j k xs hj hx hxl hk
    obtain ⟨k, rfl⟩ : ∃ m, k = m + 1 := ⟨k - 1, by omega⟩
    rw [camshaftref14_Next.l0, List.length_map, if_neg (by omega), List.drop_of_length_le (by omega), add_ref _ (by omega) k (by omega)]
    simp only [Option.bind_some]
    have e : sum xs + sum ((oth (l.getD i z41).f5 i j []).map (term (l.getD i z41).f5 w)) = sum xs := by show sum xs + 0 = sum xs; omega
    rw [e]
    unfold add
    rw [if_pos hx]
    by_cases hs : sum xs < 4611686018427387904
    · rw [if_pos hs, if_neg]
      rintro (⟨r, hr, _⟩ | h)
      · cases hr
      · omega
    · rw [if_neg hs, if_pos (.inr (by omega))]
  | succ d ih =>
    intro j k xs hj hx hxl hk
    obtain ⟨k, rfl⟩ : ∃ m, k = m + 2 := ⟨k - 2, by omega⟩
    have hlt : j < l.length := by omega
    have hwj : wrap64 ((j : Int) + 1) = ((j + 1 : Nat) : Int) := by rw [wrap_in (by omega)]; omega
    have hr := ok _ (mem_getD l z41 j hlt)
    have hdc := drop_cons l z41 j hlt
    rw [camshaftref14_Next.l0, List.length_map, if_pos (by omega), rd47 l j hlt, rd47 l i hi, hdc]
    have ih2 := fun xs => ih (j + 1) k xs (by omega)
    generalize hp : (l.getD i z41).f5 = p at *
    have hcp : (conv (l.getD i z41)).f5 = p := hp
    rw [hcp]
    generalize hgj : l.getD j z41 = r at *
    have hcr : (conv r).f5 = r.f5 := rfl
    rw [hcr]
    by_cases hskip : j = i ∨ r.f5 < p
    · have e1 : oth p i j (r :: l.drop (j + 1)) = oth p i (j + 1) (l.drop (j + 1)) := by rw [oth, if_pos hskip]
      rw [e1, ← ih2 xs hx (by omega) (by omega)]
      by_cases hji : j = i
      · rw [if_pos (by omega), camshaftref14_Next.j2, if_pos rfl, hwj]
      · rw [if_neg (by omega), if_pos (by omega), if_pos (by omega), if_pos (by omega), decide_eq_true (by omega), camshaftref14_Next.j2, if_pos rfl, hwj]
    · have e1 : oth p i j (r :: l.drop (j + 1)) = r :: oth p i (j + 1) (l.drop (j + 1)) := by rw [oth, if_neg hskip]
      rw [e1, if_neg (by omega), if_pos (by omega), if_pos (by omega), if_pos (by omega), decide_eq_false (by omega), camshaftref14_Next.j2, if_neg (by decide), List.length_map, if_pos (by omega), if_pos (by omega), if_pos (by omega), if_pos (by omega), rd47 l j hlt, rd47 l i hi, hgj, hcp]
      have hpe := part_eq r w p k (by omega)
      have hpe' : camshaftref14_part.f k (conv r).f0 (conv r).f1 (conv r).f2 (conv r).f3 (conv r).f4 (conv r).f5 w ((conv r).f5 == p) = rta_Row_adds.f k r.f0 r.f1 r.f2 r.f3 r.f4 r.f5 w p := hpe
      rw [hpe']
      obtain ⟨v, e, ha, hcase⟩ := adds_some r hr w p hw0 hw1 k (by omega)
      rw [ha]
      simp only [Option.bind_some, List.map_cons, sum_cons]
      have ht := term_nonneg (p := p) hr hw0
      have hs0 := sum_nonneg xs hx
      have hrest : 0 ≤ sum ((oth p i (j + 1) (l.drop (j + 1))).map (term p w)) := sum_nonneg_of (fun x hx => by
        obtain ⟨q, hq, rfl⟩ := List.mem_map.1 hx
        exact term_nonneg (ok q (List.mem_of_mem_drop (oth_mem hq))) hw0)
      rcases hcase with ⟨rfl, hb, rfl, htm⟩ | ⟨he, hbig⟩
      · rw [if_pos rfl, if_pos (by omega), hwj, ih2 (xs ++ [term p w r]) (by
          intro x hx'
          rcases List.mem_append.1 hx' with h1 | h1
          · exact hx x h1
          · rw [List.mem_singleton.1 h1]
            exact ⟨ht, htm⟩) (by simp; omega) (by omega), sum_append]
        have e2 : sum [term p w r] = term p w r := by show term p w r + 0 = _; omega
        rw [e2]
        have e3 : sum xs + term p w r + sum ((oth p i (j + 1) (l.drop (j + 1))).map (term p w)) = sum xs + (term p w r + sum ((oth p i (j + 1) (l.drop (j + 1))).map (term p w))) := by omega
        rw [e3]
        have e4 : ¬ 4611686018427387904 ≤ w + r.f4 := by omega
        simp only [List.mem_cons, exists_eq_or_imp, e4, false_or]
      · rw [if_neg he, if_pos]
        rcases hbig with hbig | hbig
        · exact .inl ⟨r, List.mem_cons_self, hbig⟩
        · exact .inr (by omega)
theorem ref_next (l : List S41) (h : RightL l) (i : Nat) (hi : i < l.length) (w : Int) (hw0 : 0 ≤ w) (hw1 : w < 4611686018427387904) (k : Nat) (hk : 70 ≤ k) : camshaftref14_Next.f k (l.map conv) (i : Int) w = some (nx (l.getD i z41) (others l i) w) := by
  obtain ⟨k, rfl⟩ : ∃ m, k = m + 1 := ⟨k - 1, by omega⟩
  have hl := h.2
  have ho := h.1 _ (mem_getD l z41 i hi)
  have c0 := ho.c0
  have c1 := ho.c1
  have b0 := ho.b0
  have b1 := ho.b1
  unfold camshaftref14_Next.f
  rw [ref_right l (by omega) _ (by omega), decide_eq_true h]
  simp only [Option.bind_some, if_true]
  rw [if_neg (by omega), List.length_map, if_neg (by omega), right_ref, decide_eq_true (show Ok w from ⟨hw0, hw1⟩)]
  simp only [Option.bind_some, Bool.not_true]
  rw [camshaftref14_Next.j0, if_neg (by decide), List.length_map, if_pos (by omega), if_pos (by omega), rd47 l i hi]
  have hx : ∀ x ∈ [(conv (l.getD i z41)).f0, (conv (l.getD i z41)).f1], Ok x := by
    intro x hx
    rcases List.mem_cons.1 hx with h1 | h1
    · rw [h1]; exact ⟨by show 0 ≤ (l.getD i z41).f0; omega, c1⟩
    · rw [List.mem_singleton.1 h1]; exact ⟨b0, b1⟩
  have hn := ref_next_loop l hl h.1 i hi w hw0 hw1 l.length 0 k _ (by omega) hx (by simp; omega) (by omega)
  rw [List.drop_zero, show ((0 : Nat) : Int) = 0 from rfl] at hn
  rw [hn]
  have es : sum [(conv (l.getD i z41)).f0, (conv (l.getD i z41)).f1] = (l.getD i z41).f0 + (l.getD i z41).f1 := by
    show (l.getD i z41).f0 + ((l.getD i z41).f1 + 0) = _
    omega
  rw [es]
  rfl
theorem ref_next_none (l : List S41) (hl : l.length ≤ 1000000) (i w : Int) (h : ¬ (RightL l ∧ 0 ≤ i ∧ i < l.length ∧ Ok w)) (k : Nat) (hk : l.length + 10 < k) : camshaftref14_Next.f k (l.map conv) i w = some (0, 1) := by
  obtain ⟨k, rfl⟩ : ∃ m, k = m + 1 := ⟨k - 1, by omega⟩
  have out : camshaftref14_Next.j0 (k + 1) (l.map conv) i w true = some (0, 1) := by rw [camshaftref14_Next.j0, if_pos rfl]
  unfold camshaftref14_Next.f
  rw [ref_right l (by omega) _ (by omega)]
  simp only [Option.bind_some, decide_eq_true_eq, List.length_map]
  by_cases h1 : RightL l
  · rw [if_pos h1]
    by_cases h2 : i < 0
    · rw [if_pos h2]; exact out
    · rw [if_neg h2]
      by_cases h3 : i ≥ (l.length : Int)
      · rw [if_pos h3]; exact out
      · rw [if_neg h3, right_ref, decide_eq_false (fun h4 => h ⟨h1, by omega, by omega, h4⟩)]
        exact out
  · rw [if_neg h1]; exact out
theorem ref_resp_loop (l : List S41) (h : RightL l) (i : Nat) (hi : i < l.length) : ∀ (k : Nat) (w : Int) (r : Int × Int), 0 ≤ w → w ≤ 1048576 → it (l.getD i z41) (others l i) k w = some r → camshaftref14_Response.l0 (2 * k + 80) (l.map conv) (i : Int) w = some r := by
  have ok := allOk l h i hi
  intro k
  induction k with
  | zero => intro w r _ _ hr; simp [it] at hr
  | succ k ih =>
    intro w r h0 h1 hr
    rw [show 2 * (k + 1) + 80 = (2 * k + 81) + 1 by omega, camshaftref14_Response.l0, ref_next l h i hi w h0 (by omega) _ (by omega), rd47 l i hi, List.length_map]
    simp only [Option.bind_some]
    unfold it at hr
    unfold nx
    have hp := S_pos ok h0
    have hc0 := ok.1.c0
    have hb0 := ok.1.b0
    have hd0 := ok.1.d0
    have hd1 := ok.1.d1
    have hj0 := ok.1.j0
    have hj1 := ok.1.j1
    have q3 : (conv (l.getD i z41)).f3 = (l.getD i z41).f3 := rfl
    have q4 : (conv (l.getD i z41)).f4 = (l.getD i z41).f4 := rfl
    have q4' : (rd_T47 (l.map conv) (i : Int)).f4 = (l.getD i z41).f4 := by rw [rd47 l i hi]; rfl
    have hbig : camshaftref14_Response.j2 (2 * k + 81) (l.map conv) (i : Int) w (S (l.getD i z41) (others l i) w) true = some (0, 13) := by rw [show 2 * k + 81 = (2 * k + 80) + 1 by omega, camshaftref14_Response.j2, if_pos rfl]
    have hgo : camshaftref14_Response.j2 (2 * k + 81) (l.map conv) (i : Int) w (S (l.getD i z41) (others l i) w) false = if S (l.getD i z41) (others l i) w = w then some (wrap64 (S (l.getD i z41) (others l i) w + (l.getD i z41).f4), 0) else camshaftref14_Response.l0 (2 * k + 80) (l.map conv) (i : Int) (S (l.getD i z41) (others l i) w) := by
      rw [show 2 * k + 81 = (2 * k + 80) + 1 by omega, camshaftref14_Response.j2, if_neg (by decide), List.length_map, q4']
      by_cases g : S (l.getD i z41) (others l i) w = w
      · rw [if_pos g, if_pos (show (0 : Int) ≤ (i : Int) by omega), if_pos (show (i : Int) < (l.length : Int) by omega), if_pos g]
      · rw [if_neg g, if_neg g]
    rw [q3, q4]
    by_cases g1 : Big (l.getD i z41) (others l i) w
    · rw [if_pos g1] at hr ⊢
      rw [if_neg (by decide)]
      exact hr
    · rw [if_neg g1] at hr ⊢
      simp only [if_true]
      rw [if_pos (show (0 : Int) ≤ (i : Int) by omega), if_pos (by omega)]
      by_cases g2 : S (l.getD i z41) (others l i) w > (l.getD i z41).f3
      · rw [if_pos (.inl g2)] at hr
        rw [if_pos g2, hbig]
        exact hr
      · rw [if_neg g2, wrap_in (x := (l.getD i z41).f3 - S (l.getD i z41) (others l i) w) (by omega)]
        by_cases g3 : (l.getD i z41).f4 > (l.getD i z41).f3 - S (l.getD i z41) (others l i) w
        · rw [if_pos (.inr g3)] at hr
          rw [decide_eq_true g3, hbig]
          exact hr
        · rw [if_neg (by omega)] at hr
          rw [decide_eq_false g3, hgo]
          by_cases g4 : S (l.getD i z41) (others l i) w = w
          · rw [if_pos g4] at hr ⊢
            rw [wrap_in (by omega), g4, Int.add_comm]
            exact hr
          · rw [if_neg g4] at hr ⊢
            exact ih _ r (by omega) (by omega) hr
theorem ref_resp (l : List S41) (h : RightL l) (i : Nat) (hi : i < l.length) (k : Nat) (hk : 2097300 ≤ k) : camshaftref14_Response.f k (l.map conv) (i : Int) = some (rs l i) := by
  have hl := h.2
  have h1 := ref_resp_loop l h i hi 1048580 0 _ (Int.le_refl _) (by omega) (it_resp (allOk l h i hi))
  obtain ⟨k, rfl⟩ : ∃ m, k = m + 1 := ⟨k - 1, by omega⟩
  unfold camshaftref14_Response.f
  rw [ref_right l (by omega) _ (by omega), decide_eq_true h]
  simp only [Option.bind_some, if_true]
  rw [if_neg (by omega), List.length_map, decide_eq_false (by omega), camshaftref14_Response.j0, if_neg (by decide)]
  exact at_rounds (g := fun k => camshaftref14_Response.l0 k (l.map conv) (i : Int) 0) (fun k => (camshaftref14_Response.mono_l k).2.1 _ _ _) (by omega) h1
theorem ref_resp_none (l : List S41) (hl : l.length ≤ 1000000) (i : Int) (h : ¬ (RightL l ∧ 0 ≤ i ∧ i < l.length)) (k : Nat) (hk : l.length + 10 < k) : camshaftref14_Response.f k (l.map conv) i = some (0, 1) := by
  obtain ⟨k, rfl⟩ : ∃ m, k = m + 1 := ⟨k - 1, by omega⟩
  have out : camshaftref14_Response.j0 (k + 1) (l.map conv) i true = some (0, 1) := by rw [camshaftref14_Response.j0, if_pos rfl]
  unfold camshaftref14_Response.f
  rw [ref_right l (by omega) _ (by omega)]
  simp only [Option.bind_some, decide_eq_true_eq, List.length_map]
  by_cases h1 : RightL l
  · rw [if_pos h1]
    by_cases h2 : i < 0
    · rw [if_pos h2]; exact out
    · rw [if_neg h2, decide_eq_true (show i ≥ (l.length : Int) from Int.not_lt.1 (fun h3 => h ⟨h1, by omega, h3⟩))]; exact out
  · rw [if_neg h1]; exact out
theorem ref_acc_loop (l : List S41) (h : RightL l) : ∀ (d j k : Nat), j + d = l.length → d + 2097400 < k → (∀ i, i < j → (rs l i).2 = 0) →
    ∃ r, camshaftref14_Accept.l0 k (l.map conv) ((List.range j).map (fun i => (rs l i).1)) (j : Int) = some r ∧ Acc l r := by
  have hl := h.2
  intro d
  induction d with
  | zero =>
    intro j k hj hk hp
    obtain ⟨k, rfl⟩ : ∃ m, k = m + 1 := ⟨k - 1, by omega⟩
    rw [camshaftref14_Accept.l0, List.length_map, if_neg (by omega)]
    have e : j = l.length := by omega
    subst e
    exact ⟨_, rfl, .yes hp⟩
  | succ d ih =>
    intro j k hj hk hp
    obtain ⟨k, rfl⟩ : ∃ m, k = m + 1 := ⟨k - 1, by omega⟩
    have hw : wrap64 ((j : Int) + 1) = ((j + 1 : Nat) : Int) := by rw [wrap_in (by omega)]; omega
    rw [camshaftref14_Accept.l0, List.length_map, if_pos (by omega), ref_resp l h j (by omega) k (by omega)]
    simp only [Option.bind_some]
    by_cases he : (rs l j).2 = 0
    · rw [if_pos he, if_pos (by simp; omega), hw]
      obtain ⟨r, hr, ha⟩ := ih (j + 1) k (by omega) (by omega) (fun i hi => by
        rcases Nat.lt_or_ge i j with h1 | h1
        · exact hp i h1
        · have : i = j := by omega
          rw [this]; exact he)
      rw [List.range_succ, List.map_append] at hr
      exact ⟨r, hr, ha⟩
    · rw [if_neg he]
      exact ⟨_, rfl, .no j (by omega) he hp⟩
theorem acc_one {l : List S41} {r q : List Int × Int × Int} (h : Acc l r) (h' : Acc l q) : r = q := by
  cases h with
  | yes hy =>
    cases h' with
    | yes _ => rfl
    | no j hj hne _ => exact absurd (hy j hj) hne
  | no i hi hne hlt =>
    cases h' with
    | yes hy => exact absurd (hy i hi) hne
    | no j hj hne' hlt' =>
      rcases Nat.lt_trichotomy i j with h1 | h1 | h1
      · exact absurd (hlt' i h1) hne
      · rw [h1]
      · exact absurd (hlt j h1) hne'
theorem same_loop (xs : List Int) (hl : xs.length ≤ 1000000) : ∀ d j k : Nat, j + d = xs.length → d < k → camshaftref02_Same.l0 k xs xs (j : Int) = some true := by
  intro d
  induction d with
  | zero =>
    intro j k hj hk
    obtain ⟨k, rfl⟩ : ∃ m, k = m + 1 := ⟨k - 1, by omega⟩
    rw [camshaftref02_Same.l0, if_neg (by omega)]
  | succ d ih =>
    intro j k hj hk
    obtain ⟨k, rfl⟩ : ∃ m, k = m + 1 := ⟨k - 1, by omega⟩
    have hw : wrap64 ((j : Int) + 1) = ((j + 1 : Nat) : Int) := by rw [wrap_in (by omega)]; omega
    rw [camshaftref02_Same.l0, if_pos (by omega), if_pos (by omega), if_pos (by omega), if_pos rfl, hw]
    exact ih (j + 1) k (by omega) (by omega)
theorem same_self (xs : List Int) (hl : xs.length ≤ 1000000) (k : Nat) (hk : xs.length < k) : camshaftref02_Same.f k xs xs = some true := by
  unfold camshaftref02_Same.f
  rw [if_pos rfl]
  exact same_loop xs hl xs.length 0 k (by omega) hk
end Go.Proofs.Ytpjobjgfigplhaa.Pure
