/- PLAIN: what waits, in order; what a slot releases; what is told. -/
import Derived.Test.YtdpfbmhdbnkdaaaDueMap
import Derived.Test.YtdpfbmhdbnkdaaaPrint0
set_option linter.unusedVariables false
namespace Go.Proofs.Ytdpfbmhdbnkdaaa.Tm
open Go Go.RowKit Go.Proofs.Ytdpfbmhdbnkdaaa Go.Proofs.Ytdpfbmhdbnkdaaa.Print
/-- a release stands ahead of another one -/
def W3.lt (x y : W3) : Prop := x.t < y.t ∨ (x.t = y.t ∧ x.n < y.n)
def ltD (x y : S48) : Prop := x.f0 < y.f0 ∨ (x.f0 = y.f0 ∧ x.f1 < y.f1)
instance (x y : W3) : Decidable (x.lt y) := inferInstanceAs (Decidable (_ ∨ _))
instance (x y : S48) : Decidable (ltD x y) := inferInstanceAs (Decidable (_ ∨ _))
def W3.due (x : W3) : S48 := ⟨x.t, x.n⟩
theorem W3.lt_trans {x y z : W3} (h : x.lt y) (k : y.lt z) : x.lt z := by unfold W3.lt at *; omega
theorem ltD_trans {x y z : S48} (h : ltD x y) (k : ltD y z) : ltD x z := by unfold ltD at *; omega
theorem ltD_irrefl (x : S48) : ¬ ltD x x := by unfold ltD; omega
def Sorted (ws : List W3) : Prop := ws.Pairwise W3.lt
/-- laid among the others, in order -/
def ins (x : W3) : List W3 → List W3
  | [] => [x]
  | y :: l => if y.lt x then y :: ins x l else x :: y :: l
theorem ins_perm (x : W3) : ∀ l : List W3, (ins x l).Perm (x :: l)
  | [] => List.Perm.refl _
  | y :: l => by
    rw [ins]
    split
    · exact ((ins_perm x l).cons y).trans (List.Perm.swap x y l)
    · exact List.Perm.refl _
theorem mem_ins {x y : W3} {l : List W3} : y ∈ ins x l ↔ y = x ∨ y ∈ l := by
  rw [(ins_perm x l).mem_iff, List.mem_cons]
theorem ins_length (x : W3) (l : List W3) : (ins x l).length = l.length + 1 := by
  rw [(ins_perm x l).length_eq, List.length_cons]
theorem ins_sorted {x : W3} : ∀ {l : List W3}, Sorted l → (∀ y ∈ l, ¬ (y.t = x.t ∧ y.n = x.n)) → Sorted (ins x l)
  | [], _, _ => List.pairwise_singleton _ _
  | y :: l, h, hn => by
    obtain ⟨h1, h2⟩ := List.pairwise_cons.1 h
    rw [ins]
    split
    · rename_i hy
      refine List.pairwise_cons.2 ⟨fun z hz => ?_, ins_sorted h2 (fun z hz => hn z (by simp [hz]))⟩
      rcases mem_ins.1 hz with rfl | hz
      · exact hy
      · exact h1 z hz
    · rename_i hy
      have hxy : x.lt y := by
        have := hn y (by simp)
        unfold W3.lt at *
        omega
      refine List.pairwise_cons.2 ⟨fun z hz => ?_, h⟩
      rcases List.mem_cons.1 hz with rfl | hz
      · exact hxy
      · exact W3.lt_trans hxy (h1 z hz)
/-- the jitter that is drawn -/
def clamp (q : Int) : Int := max 0 (min q 1048576)
theorem clamp_bd (q : Int) : 0 ≤ clamp q ∧ clamp q ≤ 1048576 := by unfold clamp; omega
/-- the jitter that is drawn next: 0 if none is told -/
def late : List Int → Int
  | [] => 0
  | q :: _ => clamp q
theorem late_bd (qs : List Int) : 0 ≤ late qs ∧ late qs ≤ 1048576 := by
  cases qs with
  | nil => exact ⟨Int.le_refl _, by decide⟩
  | cons q qs => exact clamp_bd q
/-- what a slot lays: of the periods from task i on -/
def rel (now : Int) : Int → List Int → List Int → List W3 → List W3
  | _, [], _, ws => ws
  | i, p :: ps, qs, ws => if now % p = 0 then rel now (i + 1) ps qs.tail (ins ⟨i, now, now + late qs⟩ ws) else rel now (i + 1) ps qs ws
/-- what is told, what is left -/
def told (now : Int) (ws : List W3) : List W3 := ws.filter (fun x => decide (x.a ≤ now))
def left (now : Int) (ws : List W3) : List W3 := ws.filter (fun x => !decide (x.a ≤ now))
/-- what a timer of periods ps is in, at slot now -/
structure Good (ps : List Int) (now : Nat) (ws : List W3) : Prop where
  sorted : Sorted ws
  task : ∀ x ∈ ws, 0 ≤ x.t ∧ x.t < ps.length
  nom : ∀ x ∈ ws, 0 ≤ x.n ∧ x.n < (now : Int)
  at_ : ∀ x ∈ ws, x.n ≤ x.a ∧ x.a ≤ x.n + 1048576
  len : ws.length ≤ 8 * now
structure PsOk (ps : List Int) : Prop where
  pos : 0 < ps.length
  le : ps.length ≤ 8
  each : ∀ p ∈ ps, 1 ≤ p ∧ p ≤ 1048576
/-- .. within a slot, behind the first i periods -/
structure Mid (ps : List Int) (now i : Nat) (ws : List W3) : Prop where
  sorted : Sorted ws
  task : ∀ x ∈ ws, 0 ≤ x.t ∧ x.t < ps.length
  nom : ∀ x ∈ ws, 0 ≤ x.n ∧ x.n ≤ (now : Int) ∧ (x.n = now → x.t < i)
  at_ : ∀ x ∈ ws, x.n ≤ x.a ∧ x.a ≤ x.n + 1048576
  len : ws.length ≤ 8 * now + i
theorem Good.mid {ps : List Int} {now : Nat} {ws : List W3} (h : Good ps now ws) : Mid ps now 0 ws :=
  ⟨h.sorted, h.task, fun x hx => by have := h.nom x hx; omega, h.at_, by have := h.len; omega⟩
theorem Mid.skip {ps : List Int} {now i : Nat} {ws : List W3} (h : Mid ps now i ws) : Mid ps now (i + 1) ws :=
  ⟨h.sorted, h.task, fun x hx => by have := h.nom x hx; omega, h.at_, by have := h.len; omega⟩
theorem Mid.new {ps : List Int} {now i : Nat} {ws : List W3} (h : Mid ps now i ws) : ∀ y ∈ ws, ¬ (y.t = (i : Int) ∧ y.n = (now : Int)) := fun y hy e => by
  have := (h.nom y hy).2.2 e.2
  omega
theorem Mid.ins {ps : List Int} {now i : Nat} {ws : List W3} (h : Mid ps now i ws) (hi : i < ps.length) (a : Int) (ha : (now : Int) ≤ a ∧ a ≤ now + 1048576) : Mid ps now (i + 1) (ins ⟨i, now, a⟩ ws) := by
  have hm : ∀ x ∈ Tm.ins ⟨i, now, a⟩ ws, x = ⟨i, now, a⟩ ∨ x ∈ ws := fun x hx => mem_ins.1 hx
  refine ⟨ins_sorted h.sorted h.new, fun x hx => ?_, fun x hx => ?_, fun x hx => ?_, by rw [ins_length]; have := h.len; omega⟩
  · rcases hm x hx with rfl | hx
    · exact ⟨Int.natCast_nonneg _, by show (i : Int) < _; omega⟩
    · exact h.task x hx
  · rcases hm x hx with rfl | hx
    · exact ⟨Int.natCast_nonneg _, Int.le_refl _, fun _ => by show (i : Int) < _; omega⟩
    · have := h.nom x hx
      omega
  · rcases hm x hx with rfl | hx
    · exact ha
    · exact h.at_ x hx
theorem rel_mid (ps0 : List Int) (now : Nat) (hl : ps0.length ≤ 8) : ∀ (ps qs : List Int) (i : Nat) (ws : List W3), i + ps.length = ps0.length → Mid ps0 now i ws → Mid ps0 now ps0.length (rel now i ps qs ws) := by
  intro ps
  induction ps with
  | nil =>
    intro qs i ws hi h
    rw [rel]
    have : i = ps0.length := by simpa using hi
    rw [← this]
    exact h
  | cons p ps ih =>
    intro qs i ws hi h
    rw [List.length_cons] at hi
    rw [rel]
    split
    · have := late_bd qs
      exact ih qs.tail (i + 1) _ (by omega) (h.ins (by omega) _ (by omega))
    · exact ih qs (i + 1) ws (by omega) h.skip
/-- behind a slot -/
theorem Good.next {ps : List Int} {now : Nat} {ws : List W3} (h : Good ps now ws) (hp : PsOk ps) (qs : List Int) : Good ps (now + 1) (left now (rel now 0 ps qs ws)) := by
  have hm := rel_mid ps now hp.le ps qs 0 ws (by omega) h.mid
  rw [show ((0 : Nat) : Int) = 0 from rfl] at hm
  have hsub : (left now (rel now 0 ps qs ws)).Sublist (rel now 0 ps qs ws) := List.filter_sublist
  have hp8 := hp.le
  exact ⟨hm.sorted.sublist hsub, fun x hx => hm.task x (hsub.subset hx), fun x hx => by have := hm.nom x (hsub.subset hx); omega, fun x hx => hm.at_ x (hsub.subset hx), by have := hsub.length_le; have := hm.len; omega⟩
theorem Good.start (ps : List Int) : Good ps 0 [] := ⟨List.Pairwise.nil, by simp, by simp, by simp, by simp⟩
theorem Mid.in64 {ps : List Int} {now i : Nat} {ws : List W3} (h : Mid ps now i ws) (hp : ps.length ≤ 8) (hn : now ≤ 1000000) : ∀ x ∈ ws, In64 x.t ∧ In64 x.n := fun x hx => by
  have h1 := h.task x hx
  have h2 := h.nom x hx
  unfold In64
  omega
/-- two rising rows of the same releases are one -/
theorem eq_of_sorted : ∀ {a b : List S48}, a.Pairwise ltD → b.Pairwise ltD → a.Perm b → a = b
  | [], b, _, _, h => (List.nil_perm.1 h).symm
  | x :: a, [], _, _, h => by have := h.length_eq; simp at this
  | x :: a, y :: b, h1, h2, h => by
    obtain ⟨a1, a2⟩ := List.pairwise_cons.1 h1
    obtain ⟨b1, b2⟩ := List.pairwise_cons.1 h2
    have hxy : x = y := by
      rcases List.mem_cons.1 (h.mem_iff.1 (List.mem_cons_self)) with e | hx
      · exact e
      · rcases List.mem_cons.1 (h.mem_iff.2 (List.mem_cons_self)) with e | hy
        · exact e.symm
        · exact absurd (ltD_trans (a1 y hy) (b1 x hx)) (ltD_irrefl x)
    subst hxy
    rw [eq_of_sorted a2 b2 ((List.perm_cons _).1 h)]
theorem due_sorted {ws : List W3} (h : Sorted ws) : (ws.map W3.due).Pairwise ltD := List.pairwise_map.2 (h.imp (fun {a b} h => h))
end Go.Proofs.Ytdpfbmhdbnkdaaa.Tm
