/- PLAIN: the recurrence of a task's response, on whole numbers: it ends, at the least number that is its own sum. -/
import Derived.Test.YtpjobjgfigplhaaPrint0
namespace Go.Proofs.Ytpjobjgfigplhaa.Pure
open Go.RowKit Go.Proofs.Ytpjobjgfigplhaa.Print
def sum (l : List Int) : Int := l.foldr (· + ·) 0
theorem sum_cons (x : Int) (l : List Int) : sum (x :: l) = x + sum l := rfl
theorem sum_append (l m : List Int) : sum (l ++ m) = sum l + sum m := by
  induction l with
  | nil => rw [List.nil_append]; show sum m = 0 + sum m; omega
  | cons x l ih => rw [List.cons_append, sum_cons, sum_cons, ih]; omega
theorem sum_perm {l m : List Int} (h : l.Perm m) : sum l = sum m := by
  induction h with
  | nil => rfl
  | cons x _ ih => rw [sum_cons, sum_cons, ih]
  | swap x y l => rw [sum_cons, sum_cons, sum_cons, sum_cons]; omega
  | trans _ _ ih1 ih2 => rw [ih1, ih2]
structure RowOk (r : S41) : Prop where
  c0 : 1 ≤ r.f0
  c1 : r.f0 < 4611686018427387904
  b0 : 0 ≤ r.f1
  b1 : r.f1 < 4611686018427387904
  t0 : 1 ≤ r.f2
  t1 : r.f2 < 4611686018427387904
  d0 : 1 ≤ r.f3
  d1 : r.f3 ≤ 1048576
  j0 : 0 ≤ r.f4
  j1 : r.f4 < 4611686018427387904
  p0 : 1 ≤ r.f5
  p1 : r.f5 ≤ 100
def cnt (p w : Int) (r : S41) : Int := (w + r.f4 + r.f2 - 1) / r.f2 + (if r.f5 = p then 1 else 0)
def term (p w : Int) (r : S41) : Int := cnt p w r * r.f0
theorem cnt_nonneg {p w : Int} {r : S41} (h : RowOk r) (hw : 0 ≤ w) : 0 ≤ cnt p w r := by
  have h1 := h.t0
  have h2 := h.j0
  have : 0 ≤ (w + r.f4 + r.f2 - 1) / r.f2 := Int.ediv_nonneg (by omega) (by omega)
  unfold cnt
  split <;> omega
theorem cnt_mono {p w v : Int} {r : S41} (h : RowOk r) (hw : w ≤ v) : cnt p w r ≤ cnt p v r := by
  have h1 := h.t0
  have : (w + r.f4 + r.f2 - 1) / r.f2 ≤ (v + r.f4 + r.f2 - 1) / r.f2 := Int.ediv_le_ediv (by omega) (by omega)
  unfold cnt
  split <;> omega
theorem term_nonneg {p w : Int} {r : S41} (h : RowOk r) (hw : 0 ≤ w) : 0 ≤ term p w r := Int.mul_nonneg (cnt_nonneg h hw) (by have := h.c0; omega)
theorem term_mono {p w v : Int} {r : S41} (h : RowOk r) (hw : w ≤ v) : term p w r ≤ term p v r := Int.mul_le_mul_of_nonneg_right (cnt_mono h hw) (by have := h.c0; omega)
theorem sum_le_of {α : Type} {f g : α → Int} {l : List α} (h : ∀ x ∈ l, f x ≤ g x) : sum (l.map f) ≤ sum (l.map g) := by
  induction l with
  | nil => exact Int.le_refl _
  | cons x l ih =>
    rw [List.map_cons, List.map_cons, sum_cons, sum_cons]
    have h1 := h x (by simp)
    have h2 := ih (fun y hy => h y (by simp [hy]))
    omega
theorem sum_nonneg_of {l : List Int} (h : ∀ x ∈ l, 0 ≤ x) : 0 ≤ sum l := by
  induction l with
  | nil => exact Int.le_refl _
  | cons x l ih =>
    rw [sum_cons]
    have h1 := h x (by simp)
    have h2 := ih (fun y hy => h y (by simp [hy]))
    omega
theorem sum_sub {α : Type} {f : α → Int} {l m : List α} (h : l.Sublist m) (h0 : ∀ x ∈ m, 0 ≤ f x) : sum (l.map f) ≤ sum (m.map f) := by
  induction h with
  | slnil => exact Int.le_refl _
  | @cons l m x _ ih =>
    rw [List.map_cons, sum_cons]
    have h1 := h0 x (by simp)
    have h2 := ih (fun y hy => h0 y (by simp [hy]))
    omega
  | @cons_cons l m x _ ih =>
    rw [List.map_cons, List.map_cons, sum_cons, sum_cons]
    have h2 := ih (fun y hy => h0 y (by simp [hy]))
    omega
/-- a task's sum; os: the others that are not below it -/
def S (o : S41) (os : List S41) (w : Int) : Int := o.f0 + o.f1 + sum (os.map (term o.f5 w))
def Big (o : S41) (os : List S41) (w : Int) : Prop := (∃ r ∈ os, 4611686018427387904 ≤ w + r.f4) ∨ 4611686018427387904 ≤ S o os w
instance (o : S41) (os : List S41) (w : Int) : Decidable (Big o os w) := by unfold Big; exact inferInstance
def nx (o : S41) (os : List S41) (w : Int) : Int × Int := if Big o os w then (0, 4) else (S o os w, 0)
def AllOk (o : S41) (os : List S41) : Prop := RowOk o ∧ ∀ r ∈ os, RowOk r
theorem S_mono {o : S41} {os : List S41} (h : AllOk o os) {w v : Int} (hw : w ≤ v) : S o os w ≤ S o os v := by
  have := sum_le_of (l := os) (f := term o.f5 w) (g := term o.f5 v) (fun r hr => term_mono (h.2 r hr) hw)
  unfold S
  omega
theorem S_pos {o : S41} {os : List S41} (h : AllOk o os) {w : Int} (hw : 0 ≤ w) : o.f0 + o.f1 ≤ S o os w := by
  have : 0 ≤ sum (os.map (term o.f5 w)) := sum_nonneg_of (fun x hx => by
    obtain ⟨r, hr, rfl⟩ := List.mem_map.1 hx
    exact term_nonneg (h.2 r hr) hw)
  unfold S
  omega
theorem Big_mono {o : S41} {os : List S41} (h : AllOk o os) {w v : Int} (hw : w ≤ v) (hb : Big o os w) : Big o os v := by
  rcases hb with ⟨r, hr, hb⟩ | hb
  · exact .inl ⟨r, hr, by omega⟩
  · exact .inr (Int.le_trans hb (S_mono h hw))
/-- the recurrence, with a number of rounds -/
def it (o : S41) (os : List S41) : Nat → Int → Option (Int × Int)
  | 0, _ => none
  | k + 1, w => if Big o os w then some (0, 4) else if S o os w > o.f3 ∨ o.f4 > o.f3 - S o os w then some (0, 13) else if S o os w = w then some (o.f4 + w, 0) else it o os k (S o os w)
/-- what is known of each number that the recurrence comes to -/
def Way (o : S41) (os : List S41) (w : Int) : Prop := 0 ≤ w ∧ w ≤ S o os w ∧ ∀ v, 0 ≤ v → v < w → v < S o os v
theorem Way.zero {o : S41} {os : List S41} (h : AllOk o os) : Way o os 0 := ⟨Int.le_refl _, by have := S_pos h (Int.le_refl 0); have := h.1.c0; have := h.1.b0; omega, fun v h0 h1 => by omega⟩
theorem Way.next {o : S41} {os : List S41} (h : AllOk o os) {w : Int} (hw : Way o os w) : Way o os (S o os w) := by
  obtain ⟨h0, h1, h2⟩ := hw
  refine ⟨by omega, S_mono h h1, fun v hv0 hv1 => ?_⟩
  rcases Int.lt_or_le v w with hlt | hge
  · exact h2 v hv0 hlt
  · exact Int.lt_of_lt_of_le hv1 (S_mono h hge)
/-- what the recurrence comes to -/
inductive Res (o : S41) (os : List S41) : Int × Int → Prop
  | yes (x : Int) : 0 ≤ x → ¬ Big o os x → S o os x = x → x + o.f4 ≤ o.f3 → (∀ v, 0 ≤ v → v < x → v < S o os v) → Res o os (o.f4 + x, 0)
  | no (e : Int) : e = 4 ∨ e = 13 → (∀ x, 0 ≤ x → ¬ Big o os x → S o os x ≤ x → ¬ x + o.f4 ≤ o.f3) → Res o os (0, e)
theorem it_res {o : S41} {os : List S41} (h : AllOk o os) : ∀ (k : Nat) (w : Int) (r : Int × Int), Way o os w → it o os k w = some r → Res o os r := by
  intro k
  induction k with
  | zero => intro w r _ hr; simp [it] at hr
  | succ k ih =>
    intro w r hw hr
    have above : ∀ x, 0 ≤ x → S o os x ≤ x → w ≤ x := fun x h0 hx => by
      rcases Int.lt_or_le x w with hlt | hge
      · have := hw.2.2 x h0 hlt; omega
      · exact hge
    unfold it at hr
    by_cases h1 : Big o os w
    · rw [if_pos h1] at hr
      injection hr with hr
      subst hr
      exact .no 4 (.inl rfl) (fun x h0 hb hx => absurd (Big_mono h (above x h0 hx) h1) hb)
    · rw [if_neg h1] at hr
      by_cases h2 : S o os w > o.f3 ∨ o.f4 > o.f3 - S o os w
      · rw [if_pos h2] at hr
        injection hr with hr
        subst hr
        refine .no 13 (.inr rfl) (fun x h0 hb hx => ?_)
        have h3 := S_mono h (above x h0 hx)
        have := h.1.j0
        omega
      · rw [if_neg h2] at hr
        by_cases h3 : S o os w = w
        · rw [if_pos h3] at hr
          injection hr with hr
          subst hr
          exact .yes w hw.1 h1 h3 (by omega) hw.2.2
        · rw [if_neg h3] at hr
          exact ih _ r (hw.next h) hr
theorem it_ends {o : S41} {os : List S41} (h : AllOk o os) : ∀ (k : Nat) (w : Int), Way o os w → (o.f3 - w).toNat < k → w ≤ o.f3 → ∃ r, it o os k w = some r := by
  intro k
  induction k with
  | zero => intro w _ hk _; omega
  | succ k ih =>
    intro w hw hk hd
    unfold it
    by_cases h1 : Big o os w
    · rw [if_pos h1]; exact ⟨_, rfl⟩
    · rw [if_neg h1]
      by_cases h2 : S o os w > o.f3 ∨ o.f4 > o.f3 - S o os w
      · rw [if_pos h2]; exact ⟨_, rfl⟩
      · rw [if_neg h2]
        by_cases h3 : S o os w = w
        · rw [if_pos h3]; exact ⟨_, rfl⟩
        · rw [if_neg h3]
          have := hw.2.1
          exact ih _ (hw.next h) (by omega) (by omega)
def resp (o : S41) (os : List S41) : Int × Int := (it o os 1048580 0).getD (0, 0)
theorem it_resp {o : S41} {os : List S41} (h : AllOk o os) : it o os 1048580 0 = some (resp o os) := by
  have := h.1.d0
  have := h.1.d1
  obtain ⟨r, hr⟩ := it_ends h 1048580 0 (Way.zero h) (by omega) (by omega)
  unfold resp
  rw [hr]
  rfl
theorem resp_res {o : S41} {os : List S41} (h : AllOk o os) : Res o os (resp o os) := it_res h _ _ _ (Way.zero h) (it_resp h)
theorem resp_yes {o : S41} {os : List S41} (h : AllOk o os) (he : (resp o os).2 = 0) : ∃ x, resp o os = (o.f4 + x, 0) ∧ 0 < x ∧ ¬ Big o os x ∧ S o os x = x ∧ x + o.f4 ≤ o.f3 ∧ ∀ v, 0 ≤ v → v < x → v < S o os v := by
  have hr := resp_res h
  generalize resp o os = r at hr he
  cases hr with
  | yes x h0 h1 h2 h3 h4 =>
    have := S_pos h h0
    have := h.1.c0
    have := h.1.b0
    exact ⟨x, rfl, by omega, h1, h2, h3, h4⟩
  | no e h1 _ => simp only at he; omega
theorem resp_no {o : S41} {os : List S41} (h : AllOk o os) (he : (resp o os).2 ≠ 0) : (resp o os).1 = 0 ∧ ((resp o os).2 = 4 ∨ (resp o os).2 = 13) ∧ ∀ x, 0 ≤ x → ¬ Big o os x → S o os x ≤ x → ¬ x + o.f4 ≤ o.f3 := by
  have hr := resp_res h
  generalize resp o os = r at hr he
  cases hr with
  | yes x h0 h1 h2 h3 h4 => exact absurd rfl he
  | no e h1 h2 => exact ⟨rfl, h1, h2⟩
/-- a number that is not below its own sum, and not too late, bounds the response -/
theorem resp_le {o : S41} {os : List S41} (h : AllOk o os) {x : Int} (h0 : 0 ≤ x) (hb : ¬ Big o os x) (hs : S o os x ≤ x) (hd : x + o.f4 ≤ o.f3) : ∃ n, resp o os = (n, 0) ∧ n ≤ x + o.f4 := by
  have hr := resp_res h
  generalize resp o os = r at hr
  cases hr with
  | yes y y0 y1 y2 y3 y4 =>
    refine ⟨_, rfl, ?_⟩
    rcases Int.lt_or_le x y with hlt | hge
    · have := y4 x h0 hlt; omega
    · omega
  | no e h1 h2 => exact absurd hd (h2 x h0 hb hs)
/-- the order of the others makes no difference -/
theorem S_perm {o : S41} {os os' : List S41} (h : os.Perm os') (w : Int) : S o os w = S o os' w := by
  unfold S
  rw [sum_perm (h.map _)]
theorem Big_perm {o : S41} {os os' : List S41} (h : os.Perm os') (w : Int) : Big o os w ↔ Big o os' w := by
  unfold Big
  rw [S_perm h]
  simp only [h.mem_iff]
theorem it_perm {o : S41} {os os' : List S41} (h : os.Perm os') : ∀ k w, it o os k w = it o os' k w := by
  intro k
  induction k with
  | zero => intro w; rfl
  | succ k ih =>
    intro w
    unfold it
    rw [S_perm h w, ih]
    simp only [Big_perm h w]
theorem resp_perm {o : S41} {os os' : List S41} (h : os.Perm os') : resp o os = resp o os' := by
  unfold resp
  rw [it_perm h]
end Go.Proofs.Ytpjobjgfigplhaa.Pure
