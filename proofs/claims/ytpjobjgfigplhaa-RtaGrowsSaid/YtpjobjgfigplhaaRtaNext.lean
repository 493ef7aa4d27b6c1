/- PLAIN: the program's sum of a task, and its response, are those of the recurrence. -/
import Derived.Test.YtpjobjgfigplhaaRtaMath
import Derived.Test.YtpjobjgfigplhaaRtaNat
import Derived.Test.YtpjobjgfigplhaaPrint10
namespace Go.Proofs.Ytpjobjgfigplhaa.Pure
open Go.RowKit Go.Proofs.Ytpjobjgfigplhaa.Print Go.Proofs.YtpjobjgfigplhaaW.PrintWords Go.Proofs.YtpjobjgfigplhaaW.PrintLast
/-- those that are not below p, but for number i -/
def oth (p : Int) (i : Nat) : Nat → List S41 → List S41
  | _, [] => []
  | j, r :: rs => if j = i ∨ r.f5 < p then oth p i (j + 1) rs else r :: oth p i (j + 1) rs
def others (l : List S41) (i : Nat) : List S41 := oth (l.getD i z41).f5 i 0 l
theorem oth_mem {p : Int} {i : Nat} {r : S41} : ∀ {l : List S41} {j : Nat}, r ∈ oth p i j l → r ∈ l := by
  intro l
  induction l with
  | nil => intro j h; exact h
  | cons x l ih =>
    intro j h
    unfold oth at h
    split at h
    · exact List.mem_cons_of_mem _ (ih h)
    · rcases List.mem_cons.1 h with rfl | h
      · exact List.mem_cons_self
      · exact List.mem_cons_of_mem _ (ih h)
theorem oth_far {p : Int} {i : Nat} : ∀ (l : List S41) (j : Nat), i < j → oth p i j l = l.filter (fun r => !decide (r.f5 < p)) := by
  intro l
  induction l with
  | nil => intro j _; rfl
  | cons x l ih =>
    intro j h
    unfold oth
    rw [ih (j + 1) (by omega)]
    by_cases hx : x.f5 < p
    · rw [if_pos (.inr hx), List.filter_cons_of_neg (by simpa using hx)]
    · rw [if_neg (by omega), List.filter_cons_of_pos (by simpa using hx)]
theorem oth_eq {p : Int} {i : Nat} : ∀ (l : List S41) (j : Nat), j ≤ i → oth p i j l = (l.eraseIdx (i - j)).filter (fun r => !decide (r.f5 < p)) := by
  intro l
  induction l with
  | nil => intro j _; rfl
  | cons x l ih =>
    intro j h
    unfold oth
    by_cases hj : j = i
    · rw [if_pos (.inl hj), oth_far l (j + 1) (by omega), hj, Nat.sub_self]
      rfl
    · rw [ih (j + 1) (by omega), show i - j = (i - (j + 1)) + 1 by omega, List.eraseIdx_cons_succ]
      by_cases hx : x.f5 < p
      · rw [if_pos (.inr hx), List.filter_cons_of_neg (by simpa using hx)]
      · rw [if_neg (by omega), List.filter_cons_of_pos (by simpa using hx)]
theorem others_eq (l : List S41) (i : Nat) : others l i = (l.eraseIdx i).filter (fun r => !decide (r.f5 < (l.getD i z41).f5)) := oth_eq l 0 (Nat.zero_le _)
theorem drop_cons {α : Type} (l : List α) (z : α) (i : Nat) (h : i < l.length) : l.drop i = l.getD i z :: l.drop (i + 1) := by
  rw [List.getD_eq_getElem?_getD, List.getElem?_eq_getElem h]
  exact List.drop_eq_getElem_cons h
theorem mem_getD {α : Type} (l : List α) (z : α) (i : Nat) (h : i < l.length) : l.getD i z ∈ l := by
  rw [List.getD_eq_getElem?_getD, List.getElem?_eq_getElem h]
  exact List.getElem_mem h
theorem rd41 (l : List S41) (i : Nat) : rd_T41 l (i : Int) = l.getD i z41 := by unfold rd_T41; rw [Int.toNat_natCast]
theorem okC {r : S41} (h : RowOk r) : Ok r.f0 := ⟨by have := h.c0; omega, h.c1⟩
/-! ### Which rows can be -/
theorem right_row (r : S41) : Right.rightB r.f0 r.f1 r.f2 r.f3 r.f4 r.f5 = true ↔ RowOk r := by
  unfold Right.rightB Right.okB
  simp only [Bool.and_eq_true, decide_eq_true_eq]
  constructor
  · rintro ⟨⟨⟨⟨⟨⟨⟨⟨⟨h1, h2⟩, h3⟩, h4⟩, h5⟩, h6⟩, h7⟩, h8⟩, h9⟩, h10⟩
    rw [wrap_in (x := r.f0 - 1) (by omega)] at h1
    rw [wrap_in (x := r.f2 - 1) (by omega)] at h2
    constructor <;> omega
  · rintro ⟨_, _, _, _, _, _, _, _, _, _, _, _⟩
    rw [wrap_in (x := r.f0 - 1) (by omega), wrap_in (x := r.f2 - 1) (by omega)]
    refine ⟨⟨⟨⟨⟨⟨⟨⟨⟨?_, ?_⟩, ?_⟩, ?_⟩, ?_⟩, ?_⟩, ?_⟩, ?_⟩, ?_⟩, ?_⟩ <;> omega
/-- can all rows be -/
def RightL (l : List S41) : Prop := (∀ r ∈ l, RowOk r) ∧ l.length ≤ 8
instance (r : S41) : Decidable (RowOk r) := decidable_of_iff _ (right_row r)
instance (l : List S41) : Decidable (RightL l) := by unfold RightL; exact inferInstance
theorem right_loop (l : List S41) (hl : l.length ≤ 1000000) : ∀ d j k : Nat, j + d = l.length → d < k → rta_Right.l0 k l l (l.length : Int) (j : Int) = some (decide ((∀ r ∈ l.drop j, RowOk r) ∧ l.length ≤ 8)) := by
  intro d
  induction d with
  | zero =>
    intro j k hj hk
    obtain ⟨k, rfl⟩ : ∃ m, k = m + 1 := ⟨k - 1, by omega⟩
    simp only [rta_Right.l0]
    rw [if_neg (by omega), List.drop_of_length_le (by omega)]
    congr 1
    rw [decide_eq_decide]
    simp
    omega
  | succ d ih =>
    intro j k hj hk
    obtain ⟨k, rfl⟩ : ∃ m, k = m + 1 := ⟨k - 1, by omega⟩
    have hlt : j < l.length := by omega
    have w : wrap64 ((j : Int) + 1) = ((j + 1 : Nat) : Int) := by rw [wrap_in (by omega)]; omega
    simp only [rta_Right.l0, rta_Row_right.f]
    rw [if_pos (by omega), if_pos (by omega), if_pos (by omega), rd41, drop_cons l z41 j hlt, w]
    simp only [Option.bind_some]
    by_cases h : RowOk (l.getD j z41)
    · rw [if_pos ((right_row _).2 h), ih (j + 1) k (by omega) (by omega)]
      simp only [List.mem_cons, forall_eq_or_imp, h, true_and]
    · rw [if_neg (fun e => h ((right_row _).1 e))]
      simp only [List.mem_cons, forall_eq_or_imp, h, false_and, decide_false]
theorem right_some_l (l : List S41) (hl : l.length ≤ 1000000) (k : Nat) (hk : l.length < k) : rta_Right.f k l = some (decide (RightL l)) := by
  have h := right_loop l hl l.length 0 k (by omega) hk
  unfold rta_Right.f
  rw [show (0 : Int) = ((0 : Nat) : Int) from rfl, h, List.drop_zero]
  rfl
theorem there_yes (l : List S41) (h : RightL l) (i : Nat) (hi : i < l.length) (k : Nat) (hk : 9 ≤ k) : rta_there.f k l (i : Int) = some true := by
  have := h.2
  unfold rta_there.f
  rw [right_some_l l (by omega) k (by omega), decide_eq_true h]
  simp only [Option.bind_some, if_true]
  rw [if_pos (by omega)]
  congr 1
  exact decide_eq_true (by omega)
theorem there_no (l : List S41) (hl : l.length ≤ 1000000) (i : Int) (h : ¬ (RightL l ∧ 0 ≤ i ∧ i < l.length)) (k : Nat) (hk : l.length < k) : rta_there.f k l i = some false := by
  unfold rta_there.f
  rw [right_some_l l hl k hk]
  simp only [Option.bind_some]
  by_cases h1 : RightL l
  · rw [if_pos (decide_eq_true h1)]
    by_cases h2 : i ≥ 0
    · rw [if_pos h2]
      congr 1
      exact decide_eq_false (fun h3 => h ⟨h1, h2, h3⟩)
    · rw [if_neg h2]
  · rw [if_neg (by rw [decide_eq_false h1]; decide)]
/-! ### What a row adds -/
theorem adds_some (r : S41) (h : RowOk r) (w p : Int) (hw0 : 0 ≤ w) (hw1 : w < 4611686018427387904) (k : Nat) (hk : 3 ≤ k) :
    ∃ v e, rta_Row_adds.f k r.f0 r.f1 r.f2 r.f3 r.f4 r.f5 w p = some (v, e) ∧ ((e = 0 ∧ w + r.f4 < 4611686018427387904 ∧ v = term p w r ∧ term p w r < 4611686018427387904) ∨ (e ≠ 0 ∧ (4611686018427387904 ≤ w + r.f4 ∨ 4611686018427387904 ≤ term p w r))) := by
  have hc0 := h.c0
  have hc1 := h.c1
  have ht0 := h.t0
  have ht1 := h.t1
  have hj0 := h.j0
  have hj1 := h.j1
  unfold rta_Row_adds.f
  have e1 : add [w, r.f4] = if w + r.f4 < 4611686018427387904 then (w + r.f4, 0) else (0, 4) := by
    have es : Pure.sum [w, r.f4] = w + r.f4 := by show w + (r.f4 + 0) = w + r.f4; omega
    unfold add
    rw [es, if_pos (by simp [Ok]; omega)]
  rw [add_some _ (by simp) k (by simp; omega), e1]
  simp only [Option.bind_some]
  by_cases hb : w + r.f4 < 4611686018427387904
  · rw [if_pos hb]
    simp only [if_true]
    rw [ceil_some _ _ k (by omega)]
    have hcn := cnt_nonneg (p := p) h hw0
    have e2 : ceil (w + r.f4) r.f2 = ((w + r.f4 + r.f2 - 1) / r.f2, 0) := by
      unfold ceil
      rw [if_pos ⟨⟨by omega, hb⟩, ⟨by omega, ht1⟩, by omega⟩]
    rw [e2]
    simp only [Option.bind_some]
    have q0 : 0 ≤ (w + r.f4 + r.f2 - 1) / r.f2 := Int.ediv_nonneg (by omega) (by omega)
    have q1 : (w + r.f4 + r.f2 - 1) / r.f2 ≤ w + r.f4 := by
      have h1 := Int.mul_ediv_add_emod (w + r.f4 + r.f2 - 1) r.f2
      have h2 := Int.emod_nonneg (w + r.f4 + r.f2 - 1) (b := r.f2) (by omega)
      have h3 := Int.emod_lt_of_pos (w + r.f4 + r.f2 - 1) (b := r.f2) (by omega)
      rcases Int.lt_or_le (w + r.f4) ((w + r.f4 + r.f2 - 1) / r.f2) with hlt | hge
      · have h4 : r.f2 * (w + r.f4 + 1) ≤ r.f2 * ((w + r.f4 + r.f2 - 1) / r.f2) := Int.mul_le_mul_of_nonneg_left (by omega) (by omega)
        have h5 : r.f2 * (w + r.f4 + 1) = r.f2 * (w + r.f4) + r.f2 := by rw [Int.mul_add, Int.mul_one]
        have h6 : 1 * (w + r.f4) ≤ r.f2 * (w + r.f4) := Int.mul_le_mul_of_nonneg_right ht0 (by omega)
        omega
      · exact hge
    have step : ∀ n : Int, 0 ≤ n → n ≤ 4611686018427387904 → n = cnt p w r → ∃ v e, ((nat_Mul.f k n r.f0).bind fun bt => some (bt.1, bt.2)) = some (v, e) ∧ ((e = 0 ∧ w + r.f4 < 4611686018427387904 ∧ v = term p w r ∧ term p w r < 4611686018427387904) ∨ (e ≠ 0 ∧ (4611686018427387904 ≤ w + r.f4 ∨ 4611686018427387904 ≤ term p w r))) := by
      intro n n0 n1 hn
      rw [mul_some _ _ k (by omega)]
      simp only [Option.bind_some]
      unfold mul term
      rw [← hn]
      by_cases hok : n < 4611686018427387904
      · rw [if_pos ⟨⟨n0, hok⟩, okC h⟩]
        by_cases hm : n * r.f0 < 4611686018427387904
        · rw [if_pos hm]
          exact ⟨_, _, rfl, .inl ⟨rfl, hb, rfl, hm⟩⟩
        · rw [if_neg hm]
          exact ⟨_, _, rfl, .inr ⟨by decide, .inr (by omega)⟩⟩
      · rw [if_neg (fun hx => hok hx.1.2)]
        refine ⟨_, _, rfl, .inr ⟨by decide, .inr ?_⟩⟩
        have h6 : n * 1 ≤ n * r.f0 := Int.mul_le_mul_of_nonneg_left hc0 n0
        omega
    by_cases hp : r.f5 = p
    · rw [if_pos hp]
      have hcn' : cnt p w r = (w + r.f4 + r.f2 - 1) / r.f2 + 1 := by unfold cnt; rw [if_pos hp]
      rw [wrap_in (by omega)]
      exact step _ (by omega) (by omega) hcn'.symm
    · rw [if_neg hp]
      have hcn' : cnt p w r = (w + r.f4 + r.f2 - 1) / r.f2 := by unfold cnt; rw [if_neg hp]; omega
      exact step _ (by omega) (by omega) hcn'.symm
  · rw [if_neg hb]
    simp only []
    rw [if_neg (by decide)]
    exact ⟨_, _, rfl, .inr ⟨by decide, .inl (by omega)⟩⟩
/-! ### A task's sum -/
theorem next_stop (k : Nat) (i w acc e : Int) (l : List S41) (j : Nat) (_hj : j ≤ l.length) (he : e ≠ 0) (a b c d f g : Int) : rta_Next.l0 (k + 1) i w acc e l (l.length : Int) (j : Int) a b c d f g = some (0, 4) := by
  simp only [rta_Next.l0]
  by_cases h : (j : Int) < l.length
  · rw [if_pos h, if_pos (by omega), if_pos h, if_neg he]
  · rw [if_neg h, if_neg he]
theorem next_loop (l : List S41) (hl : l.length ≤ 8) (ok : ∀ r ∈ l, RowOk r) (i : Nat) (w : Int) (hw0 : 0 ≤ w) (hw1 : w < 4611686018427387904) (o : S41) : ∀ (d j k : Nat) (acc : Int), j + d = l.length → 0 ≤ acc → acc < 4611686018427387904 → 3 * d + 10 < k →
    rta_Next.l0 k (i : Int) w acc 0 l (l.length : Int) (j : Int) o.f0 o.f1 o.f2 o.f3 o.f4 o.f5 =
      some (if (∃ r ∈ oth o.f5 i j (l.drop j), 4611686018427387904 ≤ w + r.f4) ∨ 4611686018427387904 ≤ acc + sum ((oth o.f5 i j (l.drop j)).map (term o.f5 w)) then (0, 4) else (acc + sum ((oth o.f5 i j (l.drop j)).map (term o.f5 w)), 0)) := by
  intro d
  induction d with
  | zero =>
    intro j k acc hj h0 h1 hk
    obtain ⟨k, rfl⟩ : ∃ m, k = m + 1 := ⟨k - 1, by omega⟩
    simp only [rta_Next.l0]
    rw [if_neg (by omega), if_pos trivial, List.drop_of_length_le (by omega)]
    have e : acc + sum ((oth o.f5 i j []).map (term o.f5 w)) = acc := by show acc + 0 = acc; omega
    rw [e, if_neg (by rintro (⟨r, hr, _⟩ | h); · cases hr
                      · omega)]
  | succ d ih =>
    intro j k acc hj h0 h1 hk
    obtain ⟨k, rfl⟩ : ∃ m, k = m + 2 := ⟨k - 2, by omega⟩
    have hlt : j < l.length := by omega
    have hwj : wrap64 ((j : Int) + 1) = ((j + 1 : Nat) : Int) := by rw [wrap_in (by omega)]; omega
    have hr := ok _ (mem_getD l z41 j hlt)
    simp only [rta_Next.l0]
    rw [if_pos (by omega), if_pos (by omega), if_pos (by omega), if_pos trivial, rd41]
    rw [drop_cons l z41 j hlt]
    generalize l.getD j z41 = r at hr ⊢
    by_cases hskip : j = i ∨ r.f5 < o.f5
    · have e1 : oth o.f5 i j (r :: l.drop (j + 1)) = oth o.f5 i (j + 1) (l.drop (j + 1)) := by rw [oth, if_pos hskip]
      rw [e1, ← ih (j + 1) k acc (by omega) h0 h1 (by omega)]
      by_cases hji : j = i
      · rw [if_pos (by omega)]
        simp only [rta_Next.j2]
        rw [if_pos trivial, hwj]
      · rw [if_neg (by omega), decide_eq_true (by omega)]
        simp only [rta_Next.j2]
        rw [if_pos trivial, hwj]
    · have e1 : oth o.f5 i j (r :: l.drop (j + 1)) = r :: oth o.f5 i (j + 1) (l.drop (j + 1)) := by rw [oth, if_neg hskip]
      rw [e1, if_neg (by omega), decide_eq_false (by omega)]
      simp only [rta_Next.j2, Bool.false_eq_true, if_false]
      obtain ⟨v, e, ha, hcase⟩ := adds_some r hr w o.f5 hw0 hw1 k (by omega)
      rw [ha]
      simp only [Option.bind_some, List.map_cons, sum_cons]
      have ht := term_nonneg (p := o.f5) hr hw0
      have hrest : 0 ≤ sum ((oth o.f5 i (j + 1) (l.drop (j + 1))).map (term o.f5 w)) := sum_nonneg_of (fun x hx => by
        obtain ⟨q, hq, rfl⟩ := List.mem_map.1 hx
        exact term_nonneg (ok q (List.mem_of_mem_drop (oth_mem hq))) hw0)
      rcases hcase with ⟨rfl, hb, rfl, htm⟩ | ⟨he, hbig⟩
      · rw [if_pos rfl, add_some _ (by simp) k (by simp; omega)]
        have es : Pure.sum [acc, term o.f5 w r] = acc + term o.f5 w r := by show acc + (term o.f5 w r + 0) = _; omega
        have ea : add [acc, term o.f5 w r] = if acc + term o.f5 w r < 4611686018427387904 then (acc + term o.f5 w r, 0) else (0, 4) := by
          unfold add
          rw [es, if_pos (by simp [Ok]; omega)]
        rw [ea]
        simp only [Option.bind_some]
        by_cases hs : acc + term o.f5 w r < 4611686018427387904
        · rw [if_pos hs]
          simp only []
          rw [hwj, ih (j + 1) k _ (by omega) (by omega) hs (by omega)]
          have e3 : acc + term o.f5 w r + sum ((oth o.f5 i (j + 1) (l.drop (j + 1))).map (term o.f5 w)) = acc + (term o.f5 w r + sum ((oth o.f5 i (j + 1) (l.drop (j + 1))).map (term o.f5 w))) := by omega
          rw [e3]
          have e4 : ¬ 4611686018427387904 ≤ w + r.f4 := by omega
          simp only [List.mem_cons, exists_eq_or_imp, e4, false_or]
        · rw [if_neg hs]
          simp only []
          obtain ⟨k, rfl⟩ : ∃ m, k = m + 1 := ⟨k - 1, by omega⟩
          rw [hwj, next_stop k _ w _ 4 l (j + 1) (by omega) (by decide), if_pos (.inr (by omega))]
      · rw [if_neg he]
        obtain ⟨k, rfl⟩ : ∃ m, k = m + 1 := ⟨k - 1, by omega⟩
        rw [hwj, next_stop k _ w _ e l (j + 1) (by omega) he, if_pos]
        rcases hbig with hbig | hbig
        · exact .inl ⟨r, List.mem_cons_self, hbig⟩
        · exact .inr (by omega)
theorem next_some (l : List S41) (h : RightL l) (i : Nat) (hi : i < l.length) (w : Int) (hw0 : 0 ≤ w) (hw1 : w < 4611686018427387904) (k : Nat) (hk : 50 ≤ k) : rta_Next.f k l (i : Int) w = some (nx (l.getD i z41) (others l i) w) := by
  obtain ⟨k, rfl⟩ : ∃ m, k = m + 1 := ⟨k - 1, by omega⟩
  have hl := h.2
  have ho := h.1 _ (mem_getD l z41 i hi)
  have c0 := ho.c0
  have c1 := ho.c1
  have b0 := ho.b0
  have b1 := ho.b1
  unfold rta_Next.f
  rw [there_yes l h i hi _ (by omega)]
  simp only [Option.bind_some, if_true]
  rw [right_some, decide_eq_true (show Ok w from ⟨hw0, hw1⟩)]
  simp only [Option.bind_some, Bool.not_true, rta_Next.j0, Bool.false_eq_true, if_false]
  rw [if_pos (by omega), if_pos (by omega), rd41, add_some _ (by simp) k (by simp; omega)]
  unfold nx others
  generalize l.getD i z41 = o at ho c0 c1 b0 b1 ⊢
  have es : Pure.sum [o.f0, o.f1] = o.f0 + o.f1 := by show o.f0 + (o.f1 + 0) = _; omega
  have ea : add [o.f0, o.f1] = if o.f0 + o.f1 < 4611686018427387904 then (o.f0 + o.f1, 0) else (0, 4) := by
    unfold add
    rw [es, if_pos (by simp [Ok]; omega)]
  rw [ea]
  simp only [Option.bind_some]
  have hrest : 0 ≤ sum ((oth o.f5 i 0 l).map (term o.f5 w)) := sum_nonneg_of (fun x hx => by
    obtain ⟨q, hq, rfl⟩ := List.mem_map.1 hx
    exact term_nonneg (h.1 q (oth_mem hq)) hw0)
  by_cases hs : o.f0 + o.f1 < 4611686018427387904
  · rw [if_pos hs]
    simp only []
    have := next_loop l hl h.1 i w hw0 hw1 o l.length 0 k (o.f0 + o.f1) (by omega) (by omega) hs (by omega)
    rw [List.drop_zero] at this
    exact this
  · rw [if_neg hs]
    simp only []
    obtain ⟨k, rfl⟩ : ∃ m, k = m + 1 := ⟨k - 1, by omega⟩
    have := next_stop k i w 0 4 l 0 (by omega) (by decide) o.f0 o.f1 o.f2 o.f3 o.f4 o.f5
    rw [show ((0 : Nat) : Int) = 0 from rfl] at this
    rw [this, if_pos (show Big o (oth o.f5 i 0 l) w from .inr (by unfold S; omega))]
end Go.Proofs.Ytpjobjgfigplhaa.Pure
