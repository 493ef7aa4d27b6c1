/- PLAIN: the program's answer on all tasks: all responses, or the first one that is none; a deadline has no part in the others' sums. -/
import Derived.Test.YtpjobjgfigplhaaRtaResp
namespace Go.Proofs.Ytpjobjgfigplhaa.Pure
open Go.RowKit Go.Proofs.Ytpjobjgfigplhaa.Print Go.Proofs.YtpjobjgfigplhaaW.PrintWords Go.Proofs.YtpjobjgfigplhaaW.PrintLast
def rs (l : List S41) (i : Nat) : Int × Int := resp (l.getD i z41) (others l i)
/-- what Accept tells -/
inductive Acc (l : List S41) : List Int × Int × Int → Prop
  | yes : (∀ i, i < l.length → (rs l i).2 = 0) → Acc l ((List.range l.length).map (fun i => (rs l i).1), -1, 0)
  | no (j : Nat) : j < l.length → (rs l j).2 ≠ 0 → (∀ i, i < j → (rs l i).2 = 0) → Acc l ([], (j : Int), (rs l j).2)
theorem acc_loop (l : List S41) (h : RightL l) : ∀ (d j k : Nat), j + d = l.length → d + 1048700 < k → (∀ i, i < j → (rs l i).2 = 0) →
    ∃ r, rta_Accept.l0 k l ((List.range j).map (fun i => (rs l i).1)) (l.length : Int) (j : Int) = some r ∧ Acc l r := by
  have hl := h.2
  intro d
  induction d with
  | zero =>
    intro j k hj hk hp
    obtain ⟨k, rfl⟩ : ∃ m, k = m + 1 := ⟨k - 1, by omega⟩
    rw [rta_Accept.l0, if_neg (by omega)]
    have e : j = l.length := by omega
    subst e
    exact ⟨_, rfl, .yes hp⟩
  | succ d ih =>
    intro j k hj hk hp
    obtain ⟨k, rfl⟩ : ∃ m, k = m + 1 := ⟨k - 1, by omega⟩
    have hw : wrap64 ((j : Int) + 1) = ((j + 1 : Nat) : Int) := by rw [wrap_in (by omega)]; omega
    rw [rta_Accept.l0, if_pos (by omega), resp_some l h j (by omega) k (by omega)]
    simp only [Option.bind_some]
    by_cases he : (rs l j).2 = 0
    · have he' := he
      unfold rs at he'
      rw [if_pos he', if_pos (by simp; omega), hw]
      obtain ⟨r, hr, ha⟩ := ih (j + 1) k (by omega) (by omega) (fun i hi => by
        rcases Nat.lt_or_ge i j with h1 | h1
        · exact hp i h1
        · have : i = j := by omega
          rw [this]; exact he)
      rw [List.range_succ, List.map_append] at hr
      exact ⟨r, hr, ha⟩
    · have he' := he
      unfold rs at he'
      rw [if_neg he']
      exact ⟨_, rfl, .no j (by omega) he hp⟩
theorem acc_some (l : List S41) (h : RightL l) : ∃ r, (∀ k, 1048710 ≤ k → rta_Accept.f k l = some r) ∧ Acc l r := by
  have hl := h.2
  obtain ⟨r, hr, ha⟩ := acc_loop l h l.length 0 1048710 (by omega) (by omega) (fun i hi => by omega)
  refine ⟨r, fun k hk => at_rounds (g := fun k => rta_Accept.f k l) (rta_Accept.mono l) hk ?_, ha⟩
  unfold rta_Accept.f
  rw [right_some_l l (by omega) _ (by omega), decide_eq_true h]
  simp only [Option.bind_some, if_true]
  exact hr
/-- without its deadline -/
def strip (r : S41) : S41 := { r with f3 := 0 }
theorem oth_strip {p : Int} {i : Nat} : ∀ (l : List S41) (j : Nat), (oth p i j l).map strip = oth p i j (l.map strip) := by
  intro l
  induction l with
  | nil => intro j; rfl
  | cons x l ih =>
    intro j
    rw [List.map_cons, oth, oth]
    have e : (strip x).f5 = x.f5 := rfl
    rw [e]
    split
    · exact ih (j + 1)
    · rw [List.map_cons, ih]
theorem S_strip (o : S41) (os : List S41) (w : Int) : S o os w = S (strip o) (os.map strip) w := by
  unfold S
  rw [List.map_map]
  rfl
theorem Big_strip (o : S41) (os : List S41) (w : Int) : Big o os w ↔ Big (strip o) (os.map strip) w := by
  unfold Big
  rw [S_strip]
  constructor
  · rintro (⟨r, hr, h⟩ | h)
    · exact .inl ⟨strip r, List.mem_map_of_mem hr, h⟩
    · exact .inr h
  · rintro (⟨r, hr, h⟩ | h)
    · obtain ⟨q, hq, rfl⟩ := List.mem_map.1 hr
      exact .inl ⟨q, hq, h⟩
    · exact .inr h
/-- a task whose deadline, and whose others' deadlines, are others, the own one no lesser: it has a response, if it had one -/
theorem resp_wide {o o' : S41} {os os' : List S41} (ok : AllOk o os) (ok' : AllOk o' os') (ho : strip o' = strip o) (hos : os'.map strip = os.map strip) (hd : o.f3 ≤ o'.f3) (he : (resp o os).2 = 0) : (resp o' os').2 = 0 := by
  obtain ⟨x, hx, x0, xb, xs, xd, xl⟩ := resp_yes ok he
  have hj : o'.f4 = o.f4 := by
    have e : (strip o').f4 = (strip o).f4 := by rw [ho]
    exact e
  obtain ⟨n, hn, _⟩ := resp_le ok' (x := x) (by omega) (by rw [Big_strip, ho, hos, ← Big_strip]; exact xb) (by rw [S_strip, ho, hos, ← S_strip, xs]; exact Int.le_refl _) (by omega)
  rw [hn]
end Go.Proofs.Ytpjobjgfigplhaa.Pure
