/- A scope with a label that is jumped to, walked with a count of the rounds still allowed that stands nowhere in the act (as a loop's ghost has it). -/
import Derived.ScopeJumps
namespace Go.Proofs.Ytpjobjgfigplhaa
theorem least {p : Nat → Prop} (n : Nat) (h : p n) : ∃ m, p m ∧ ∀ j, p j → m ≤ j := by
  induction n using Nat.strongRecOn with
  | _ n ih =>
    by_cases hx : ∃ j, j < n ∧ p j
    · obtain ⟨j, hj, hp⟩ := hx
      exact ih j hj hp
    · refine ⟨n, h, fun j hj => ?_⟩
      rcases Nat.lt_or_ge j n with hlt | hge
      · exact absurd ⟨j, hlt, hj⟩ hx
      · exact hge
open Classical in
noncomputable def rounds (I : Nat → Act → World → Prop) (a : Act) (w : World) : Nat := if h : ∃ n, I n a w then Classical.choose (least (p := fun n => I n a w) (Classical.choose h) (Classical.choose_spec h)) else 0
theorem rounds_spec {I : Nat → Act → World → Prop} {a : Act} {w : World} (h : ∃ n, I n a w) : I (rounds I a w) a w ∧ ∀ j, I j a w → rounds I a w ≤ j := by
  unfold rounds
  rw [dif_pos h]
  exact Classical.choose_spec (least (p := fun n => I n a w) (Classical.choose h) (Classical.choose_spec h))
theorem wp_scope_ghost {P : Program} {a : Act} {w : World} {Q : Exit → Act → World → Prop} {c rest : Code} (l : Nat) (I : Nat → Act → World → Prop) (hf : findLabel c l = some rest)
    (first : c.wp P (Exit.jump l (fun a' w' => ∃ n, I n a' w') Q) a w)
    (pass : ∀ n a w, I n a w → rest.wp P (Exit.jump l (fun a' w' => ∃ m, m < n ∧ I m a' w') Q) a w) : (Code.scope c).wp P Q a w := by
  refine wp_scope_jumps l (fun a' w' => ∃ n, I n a' w') (rounds I) hf first ?_
  intro a w h
  obtain ⟨h1, _⟩ := rounds_spec h
  refine Code.wp_mono ?_ (pass _ a w h1)
  intro e a' w' hq
  cases e with
  | goto l' =>
    obtain ⟨hl, m, hm, hI⟩ := hq
    exact ⟨hl, ⟨m, hI⟩, Nat.lt_of_le_of_lt ((rounds_spec ⟨m, hI⟩).2 m hI) hm⟩
  | _ => exact hq
/-- .. where the label's rest begins with a skip, and the first way in uses the round that is shown already. -/
theorem wp_scope_ghost2 {P : Program} {a : Act} {w : World} {Q : Exit → Act → World → Prop} {c rest : Code} (l : Nat) (I : Nat → Act → World → Prop) (hf : findLabel c l = some (Code.skip.seq rest))
    (pass : ∀ n a w, I n a w → rest.wp P (Exit.jump l (fun a' w' => ∃ m, m < n ∧ I m a' w') Q) a w)
    (first : (∀ n a w, I n a w → rest.wp P (Exit.jump l (fun a' w' => ∃ n, I n a' w') Q) a w) → c.wp P (Exit.jump l (fun a' w' => ∃ n, I n a' w') Q) a w) : (Code.scope c).wp P Q a w := by
  refine wp_scope_ghost l I hf (first ?_) (fun n a w h => wp_seq (wp_skip (pass n a w h)))
  intro n a w h
  refine Code.wp_mono ?_ (pass n a w h)
  intro e a' w' hq
  cases e with
  | goto l' =>
    obtain ⟨hl, m, _, hI⟩ := hq
    exact ⟨hl, m, hI⟩
  | _ => exact hq
end Go.Proofs.Ytpjobjgfigplhaa
