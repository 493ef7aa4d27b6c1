/- The plain statement of NatParts: a sum of two rows is the sum of their sums; a product of a sum is the sum of the products, as far as all is right. -/
import Derived.Test.YtdkagkoglefncaaPrint18
import Derived.Test.YtdkagkoglefncaaNatPure
namespace Go.Proofs.Ytdkagkoglefncaa.Pure
open Go.RowKit Go.Proofs.Ytdkagkoglefncaa.Print Go.Proofs.YtdkagkoglefncaaW.PrintWords Go.Proofs.YtdkagkoglefncaaW.PrintLast
open Best
theorem mul_ok (a b : Int) : (mul a b).2 = 0 → Ok a ∧ Ok b ∧ a * b < 4611686018427387904 ∧ mul a b = (a * b, 0) := by
  intro h
  unfold mul at h ⊢
  by_cases hab : Ok a ∧ Ok b
  · rw [if_pos hab] at h ⊢
    by_cases hl : a * b < 4611686018427387904
    · rw [if_pos hl]
      exact ⟨hab.1, hab.2, hl, rfl⟩
    · rw [if_neg hl] at h
      exact absurd h (by decide)
  · rw [if_neg hab] at h
    exact absurd h (by decide)
theorem add_good (l : List Int) (h : (∀ x ∈ l, Ok x) ∧ sum l < 4611686018427387904) : add l = (sum l, 0) := by
  unfold add
  rw [if_pos h.1, if_pos h.2]
theorem add_bad (l : List Int) (h : ¬ ((∀ x ∈ l, Ok x) ∧ sum l < 4611686018427387904)) : (add l).1 = 0 ∧ ¬ (add l).2 = 0 := by
  unfold add
  by_cases h1 : ∀ x ∈ l, Ok x
  · rw [if_pos h1, if_neg (fun h2 => h ⟨h1, h2⟩)]
    exact ⟨rfl, by decide⟩
  · rw [if_neg h1]
    exact ⟨rfl, by decide⟩
theorem NatParts : camshaftlaw10_NatParts.Pure := by
  intro a b c ha1 ha2 ha3 hb1 hb2 hb3 hc
  refine ⟨100, ?_⟩
  unfold camshaftlaw10_NatParts.f
  have out : camshaftlaw10_NatParts.j0 100 a b c true = some true := by
    simp only [camshaftlaw10_NatParts.j0, if_true]
    rw [known_true]
    rfl
  by_cases h1 : (a.length : Int) > 40
  · rw [if_pos h1]
    exact out
  · rw [if_neg h1]
    by_cases h2 : (b.length : Int) > 40
    · rw [decide_eq_true h2]
      exact out
    · rw [decide_eq_false h2]
      simp only [camshaftlaw10_NatParts.j0, Bool.false_eq_true, if_false]
      rw [add_some a (by omega) _ (by omega), add_some b (by omega) _ (by omega)]
      simp only [Option.bind_some, List.nil_append, List.length_nil]
      rw [if_pos (by omega), if_pos (by omega), add_some (a ++ b) (by rw [List.length_append]; omega) _ (by rw [List.length_append]; omega)]
      simp only [Option.bind_some]
      have bad : ∀ x y : Int, ¬ ((∀ x ∈ a ++ b, Ok x) ∧ sum (a ++ b) < 4611686018427387904) → camshaftlaw10_NatParts.j1 99 c x y (add (a ++ b)).1 (add (a ++ b)).2 true = some true := by
        intro x y h
        obtain ⟨e1, e2⟩ := add_bad _ h
        simp only [camshaftlaw10_NatParts.j1, if_true]
        rw [if_neg e2, if_pos e1, known_true]
        rfl
      by_cases ga : (∀ x ∈ a, Ok x) ∧ sum a < 4611686018427387904
      · rw [add_good a ga, if_pos rfl]
        by_cases gb : (∀ x ∈ b, Ok x) ∧ sum b < 4611686018427387904
        · rw [add_good b gb]
          have oa : Ok (sum a) := ⟨sum_nonneg a ga.1, ga.2⟩
          have ob : Ok (sum b) := ⟨sum_nonneg b gb.1, gb.2⟩
          have hall : ∀ x ∈ a ++ b, Ok x := by
            intro x hx
            rcases List.mem_append.1 hx with h | h
            · exact ga.1 x h
            · exact gb.1 x h
          have hW : add (a ++ b) = add [sum a, sum b] := by
            rw [add_two, if_pos ⟨oa, ob⟩]
            unfold add
            rw [if_pos hall, sum_append]
          rw [hW]
          generalize sum a = x at *
          generalize sum b = y at *
          simp only [bne_self_eq_false, camshaftlaw10_NatParts.j1, Bool.false_eq_true, if_false]
          rw [add_some [x, y] (by simp) _ (by simp)]
          simp only [Option.bind_some]
          rw [mul_some _ _ _ (by omega), mul_some _ _ _ (by omega), mul_some _ _ _ (by omega)]
          simp only [Option.bind_some]
          rw [add_some _ (by simp) _ (by simp)]
          simp only [Option.bind_some, if_true, known_true]
          by_cases hw : (add [x, y]).2 = 0
          · rw [if_pos hw]
            have hxy : x + y < 4611686018427387904 := by
              rw [add_two, if_pos ⟨oa, ob⟩] at hw
              by_cases h : x + y < 4611686018427387904
              · exact h
              · rw [if_neg h] at hw
                exact absurd hw (by decide)
            have ew : add [x, y] = (x + y, 0) := by rw [add_two, if_pos ⟨oa, ob⟩, if_pos hxy]
            rw [ew]
            by_cases hp : (mul (x + y) c).2 = 0
            · simp only at hp ⊢
              rw [if_pos hp]
              obtain ⟨_, oc, lp, ep⟩ := mul_ok _ _ hp
              have hx0 : 0 ≤ x * c := Int.mul_nonneg oa.1 oc.1
              have hy0 : 0 ≤ y * c := Int.mul_nonneg ob.1 oc.1
              have hs : (x + y) * c = x * c + y * c := Int.add_mul x y c
              have ex : mul x c = (x * c, 0) := by
                unfold mul
                rw [if_pos ⟨oa, oc⟩, if_pos (by omega)]
              have ey : mul y c = (y * c, 0) := by
                unfold mul
                rw [if_pos ⟨ob, oc⟩, if_pos (by omega)]
              have ox : Ok (x * c) := ⟨hx0, by omega⟩
              have oy : Ok (y * c) := ⟨hy0, by omega⟩
              have es : add [x * c, y * c] = (x * c + y * c, 0) := by rw [add_two, if_pos ⟨ox, oy⟩, if_pos (by omega)]
              rw [ex, ey, ep]
              simp only [es, if_true, hs]
            · simp only at hp ⊢
              rw [if_neg hp]
          · rw [if_neg hw]
        · obtain ⟨e1, e2⟩ := add_bad b gb
          have hb : ((add b).2 != 0) = true := by rw [bne_iff_ne]; exact e2
          rw [hb]
          refine bad _ _ (fun h => gb ⟨fun x hx => h.1 x (List.mem_append.2 (Or.inr hx)), ?_⟩)
          have h2 := h.2
          rw [sum_append] at h2
          have := sum_nonneg a ga.1
          omega
      · obtain ⟨e1, e2⟩ := add_bad a ga
        rw [if_neg e2]
        refine bad _ _ (fun h => ga ⟨fun x hx => h.1 x (List.mem_append.2 (Or.inl hx)), ?_⟩)
        have h2 := h.2
        rw [sum_append] at h2
        have := sum_nonneg b (fun x hx => h.1 x (List.mem_append.2 (Or.inr hx)))
        omega

end Go.Proofs.Ytdkagkoglefncaa.Pure
