/- The plain statement of NatMost: the greatest one is one of all, and none is above it; the least one likewise; those of the others are no greater, no less. -/
import Derived.Test.YtdkagkoglefncaaPrint17
import Derived.Test.YtdkagkoglefncaaNatPure
namespace Go.Proofs.Ytdkagkoglefncaa.Pure
open Go.RowKit Go.Proofs.Ytdkagkoglefncaa.Print Go.Proofs.YtdkagkoglefncaaW.PrintWords Go.Proofs.YtdkagkoglefncaaW.PrintLast
open Best
theorem best_spec (B : Int → Int → Bool) (R : Int → Int → Prop) (hr : ∀ x, R x x) (ht : ∀ x y z, R x y → R y z → R x z) (hy : ∀ n y, B n y = true → R y n) (hn : ∀ n y, ¬ B n y = true → R n y) :
    ∀ (l : List Int) (y : Int), ∃ z, (l.foldl (fun (x : Option Int) n => match x with | none => some n | some y => if B n y = true then some n else some y) (some y)) = some z ∧ z ∈ y :: l ∧ ∀ x ∈ y :: l, R x z := by
  intro l
  induction l with
  | nil =>
    intro y
    exact ⟨y, rfl, by simp, fun x hx => by
      simp only [List.mem_cons, List.not_mem_nil, or_false] at hx
      rw [hx]; exact hr y⟩
  | cons a l ih =>
    intro y
    simp only [List.foldl_cons]
    by_cases h : B a y = true
    · rw [if_pos h]
      obtain ⟨z, h1, h2, h3⟩ := ih a
      refine ⟨z, h1, ?_, ?_⟩
      · simp only [List.mem_cons] at h2 ⊢
        exact Or.inr h2
      · intro x hx
        simp only [List.mem_cons] at hx
        rcases hx with rfl | rfl | hx
        · exact ht _ _ _ (hy _ _ h) (h3 a (by simp))
        · exact h3 _ (by simp)
        · exact h3 x (by simp [hx])
    · rw [if_neg h]
      obtain ⟨z, h1, h2, h3⟩ := ih y
      refine ⟨z, h1, ?_, ?_⟩
      · simp only [List.mem_cons] at h2 ⊢
        rcases h2 with h2 | h2
        · exact Or.inl h2
        · exact Or.inr (Or.inr h2)
      · intro x hx
        simp only [List.mem_cons] at hx
        rcases hx with rfl | rfl | hx
        · exact h3 _ (by simp)
        · exact ht _ _ _ (hn _ _ h) (h3 y (by simp))
        · exact h3 x (by simp [hx])
theorem most_spec (l : List Int) (h : l ≠ []) : bestL gt l ∈ l ∧ ∀ x ∈ l, x ≤ bestL gt l := by
  cases l with
  | nil => exact absurd rfl h
  | cons a l =>
    obtain ⟨z, h1, h2, h3⟩ := best_spec gt (fun x y => x ≤ y) (fun x => Int.le_refl x) (fun x y z => Int.le_trans) (fun n y h => by simp [gt] at h; omega) (fun n y h => by simp [gt] at h; omega) l a
    have e : bestL gt (a :: l) = z := by unfold bestL; exact congrArg (fun o => Option.getD o 0) h1
    rw [e]
    exact ⟨h2, h3⟩
theorem least_spec (l : List Int) (h : l ≠ []) : bestL lt l ∈ l ∧ ∀ x ∈ l, bestL lt l ≤ x := by
  cases l with
  | nil => exact absurd rfl h
  | cons a l =>
    obtain ⟨z, h1, h2, h3⟩ := best_spec lt (fun x y => y ≤ x) (fun x => Int.le_refl x) (fun x y z h1 h2 => Int.le_trans h2 h1) (fun n y h => by simp [lt] at h; omega) (fun n y h => by simp [lt] at h; omega) l a
    have e : bestL lt (a :: l) = z := by unfold bestL; exact congrArg (fun o => Option.getD o 0) h1
    rw [e]
    exact ⟨h2, h3⟩
theorem most_loop (l : List Int) (hl : l.length ≤ 100) (m n : Int) (hm : m ∈ l ∧ ∀ x ∈ l, x ≤ m) (hn : n ∈ l ∧ ∀ x ∈ l, n ≤ x) (fin : ∀ k, camshaftlaw10_NatMost.l0 (k + 1) l m n true true (l.length : Int) = some true) (d : Nat) :
    ∀ (k i : Nat) (p q : Bool), i + d = l.length → (p = decide (m ∈ l.take i)) → (q = decide (n ∈ l.take i)) → d < k → camshaftlaw10_NatMost.l0 k l m n p q (i : Int) = some true := by
  induction d with
  | zero =>
    intro k i p q hi hp hq hk
    obtain ⟨k, rfl⟩ : ∃ m, k = m + 1 := ⟨k - 1, by omega⟩
    have e : i = l.length := by omega
    subst e
    rw [List.take_length, decide_eq_true hm.1] at hp
    rw [List.take_length, decide_eq_true hn.1] at hq
    subst hp hq
    exact fin k
  | succ d ih =>
    intro k i p q hi hp hq hk
    obtain ⟨k, rfl⟩ : ∃ m, k = m + 1 := ⟨k - 1, by omega⟩
    have hlt : i < l.length := by omega
    have hmem : l.getD i 0 ∈ l := by
      rw [List.getD_eq_getElem?_getD, List.getElem?_eq_getElem hlt]
      exact List.getElem_mem hlt
    have ht : l.take (i + 1) = l.take i ++ [l.getD i 0] := by
      rw [List.take_succ_eq_append_getElem hlt, List.getD_eq_getElem?_getD, List.getElem?_eq_getElem hlt]
      rfl
    have w : wrap64 ((i : Int) + 1) = ((i + 1 : Nat) : Int) := by rw [wrap_in (by omega)]; omega
    have x1 := hm.2 _ hmem
    have x2 := hn.2 _ hmem
    simp only [camshaftlaw10_NatMost.l0]
    rw [if_pos (by omega), if_pos (by omega), rd_nat, if_neg (by omega), if_neg (by omega), w]
    have step : ∀ p' q', p' = decide (m ∈ l.take (i + 1)) → q' = decide (n ∈ l.take (i + 1)) → camshaftlaw10_NatMost.l0 k l m n p' q' ((i + 1 : Nat) : Int) = some true := fun p' q' h1 h2 => ih k (i + 1) p' q' (by omega) h1 h2 (by omega)
    have up : ∀ z : Int, ∀ r : Bool, r = decide (z ∈ l.take i) → (if r = true then true else (l.getD i 0 == z)) = decide (z ∈ l.take (i + 1)) := by
      intro z r hr
      rw [ht, hr]
      generalize l.getD i 0 = v
      by_cases h : z ∈ l.take i
      · simp [h]
      · by_cases h2 : v = z
        · simp [h2]
        · have h3 : ¬ z = v := fun e => h2 e.symm
          simp [h, h2, h3]
    have u1 := up m p hp
    have u2 := up n q hq
    by_cases h1 : p = true
    · by_cases h2 : q = true
      · rw [if_pos h1, if_pos h2]
        rw [if_pos h1] at u1
        rw [if_pos h2] at u2
        exact step _ _ u1 u2
      · rw [if_pos h1, if_neg h2]
        rw [if_pos h1] at u1
        rw [if_neg h2] at u2
        exact step _ _ u1 u2
    · by_cases h2 : q = true
      · rw [if_neg h1, if_pos h2]
        rw [if_neg h1] at u1
        rw [if_pos h2] at u2
        exact step _ _ u1 u2
      · rw [if_neg h1, if_neg h2]
        rw [if_neg h1] at u1
        rw [if_neg h2] at u2
        exact step _ _ u1 u2
theorem NatMost : camshaftlaw10_NatMost.Pure := by
  intro l h1 h2 h3
  refine ⟨l.length + 3, ?_⟩
  unfold camshaftlaw10_NatMost.f
  have bad : camshaftlaw10_NatMost.j0 (l.length + 3) l true = some true := by
    simp only [camshaftlaw10_NatMost.j0, if_true]
    rw [known_true]
    rfl
  by_cases h0 : (l.length : Int) = 0
  · rw [if_pos h0]
    exact bad
  · rw [if_neg h0]
    by_cases h100 : (l.length : Int) > 100
    · rw [decide_eq_true h100]
      exact bad
    · rw [decide_eq_false h100]
      have hne : l ≠ [] := by rintro rfl; exact h0 rfl
      have hm := most_spec l hne
      have hn := least_spec l hne
      simp only [camshaftlaw10_NatMost.j0, Bool.false_eq_true, if_false, nat_Most.f, nat_Least.f, Option.bind_some]
      refine most_loop l (by omega) _ _ hm hn ?_ l.length (l.length + 2) 0 false false (by omega) (by simp) (by simp) (by omega)
      intro k
      simp only [camshaftlaw10_NatMost.l0, if_true]
      rw [if_neg (by omega)]
      by_cases e1 : (l.length : Int) = 1
      · rw [if_pos e1, known_true]
        rfl
      · rw [if_neg e1, if_pos (by omega)]
        have hne2 : l.drop 1 ≠ [] := by
          intro e
          have := congrArg List.length e
          rw [List.length_drop] at this
          simp at this
          omega
        have m2 := most_spec _ hne2
        have n2 := least_spec _ hne2
        simp only [nat_Most.f, nat_Least.f, Option.bind_some]
        rw [if_pos (hm.2 _ (List.mem_of_mem_drop m2.1)), if_pos (hn.2 _ (List.mem_of_mem_drop n2.1)), known_true]
        rfl

end Go.Proofs.Ytdkagkoglefncaa.Pure
