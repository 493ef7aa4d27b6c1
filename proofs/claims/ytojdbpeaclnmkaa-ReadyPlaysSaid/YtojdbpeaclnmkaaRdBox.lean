/- A job variable that is written anew, among several sets; what is taken of a set whose first part is above all the others. -/
import Derived.Test.YtojdbpeaclnmkaaRdSame
set_option linter.unusedVariables false
set_option linter.unusedSimpArgs false
namespace Go.Proofs.Ytojdbpeaclnmkaa.Rd
open Go Go.RowKit Go.Proofs.YtojdbpeaclnmkaaW.PrintWords Go.Proofs.YtojdbpeaclnmkaaW.PrintLast Go.Proofs.YtojdbpeaclnmkaaW.PrintMore Go.Proofs.Ytojdbpeaclnmkaa Go.Proofs.Ytojdbpeaclnmkaa.Print
attribute [local go_sem] max2_int min2_int max_two min_two
theorem Sts.boxBlk {w0 W : World} {L1 L2 : List (Key × List S30)} {b : Nat} {j : S30} (h : Sts w0 W (L1 ++ (boxAt b, [j]) :: L2)) : b < W.heap.size ∧ ∀ o, W.frozen? ⟨b, o, none⟩ = false := by
  rcases h.getRow.2 with ⟨_, h4⟩ | ⟨g, cap, cur, h3, h5, h6, _⟩
  · cases h4
  · injection h3 with h3 _ _
    injection h3 with h3
    injection h3 with h3
    subst h3
    exact ⟨blk_lt h6, fun o => blk_frozen h6 o⟩
/-- one job variable was written: all else is as it was -/
theorem Sts.boxTo {w0 W W1 : World} {L1 L2 : List (Key × List S30)} {b : Nat} {j j' : S30} (h : Sts w0 W (L1 ++ (boxAt b, [j]) :: L2)) (hb : ∀ B, B ≤ b → Below B W W1) (hk : ∀ k, k ≠ b → W1.heap[k]? = W.heap[k]?)
    (hr : RowIs W w0.heap.size (.slice (some ⟨b, 0, none⟩) 1 1) [j] → RowIs W1 w0.heap.size (.slice (some ⟨b, 0, none⟩) 1 1) [j']) : Sts w0 W1 (L1 ++ (boxAt b, [j']) :: L2) := by
  have hlow := ((h.getRow).lt b rfl).2.1
  obtain ⟨cur0, hc0⟩ := ((h.getRow).lt b rfl).2.2
  have hrow1 := hr h.getRow
  obtain ⟨L', hm, h1, h2, h3⟩ := h
  obtain ⟨M1, M', rfl, rfl, hm2⟩ := List.map_eq_append_iff.1 hm
  obtain ⟨x, M2, rfl, hx, rfl⟩ := List.map_eq_cons_iff.1 hm2
  simp only [Prod.mk.injEq] at hx
  obtain ⟨hkey, hjobs⟩ := hx
  have hxm : x ∈ M1 ++ x :: M2 := by simp
  have hxi := h2 x hxm
  have hval : x.val = .slice (some ⟨b, 0, none⟩) 1 1 := by
    unfold Ent.is at hxi
    rw [hkey] at hxi
    exact hxi.1
  have hown : x.val.ownBlock = some b := by rw [hval]; rfl
  have apart : ∀ y, y ∈ M1 ∨ y ∈ M2 → x.apart y := by
    intro y hy
    rw [List.pairwise_append, List.pairwise_cons] at h3
    rcases hy with hy | hy
    · exact Ent.apart_symm (h3.2.2 y hy x (by simp))
    · exact h3.2.1.1 y hy
  have hap : ∀ y : Ent, x.apart y → (⟨boxAt b, .slice (some ⟨b, 0, none⟩) 1 1, [j']⟩ : Ent).apart y := fun y hy => ⟨fun g hg => by (cases hg), fun k hkk => hy.2 k (by rw [hval]; exact hkk)⟩
  have far : ∀ y, y ∈ M1 ∨ y ∈ M2 → y.is W1 w0.heap.size := by
    intro y hy
    have hym : y ∈ M1 ++ x :: M2 := by rcases hy with hy | hy <;> simp [hy]
    have hyi := h2 y hym
    refine hyi.move (fun g hg => hk g (fun e => ?_)) (fun k hkk => hk k (fun e => (apart y hy).2 b hown (by rw [hkk, e])))
    have h4 := hyi
    unfold Ent.is at h4
    rw [hg] at h4
    have h5 := SetIs.blk h4
    rw [e, hc0] at h5
    injection h5 with h5
    injection h5 with _ h5
    exact absurd h5 (by decide)
  refine ⟨M1 ++ ⟨boxAt b, .slice (some ⟨b, 0, none⟩) 1 1, [j']⟩ :: M2, by simp, h1.trans (hb _ hlow), fun y hy => ?_, ?_⟩
  · rcases List.mem_append.1 hy with hy | hy
    · exact far y (.inl hy)
    · rcases List.mem_cons.1 hy with rfl | hy
      · exact ⟨rfl, hrow1⟩
      · exact far y (.inr hy)
  · rw [List.pairwise_append, List.pairwise_cons] at h3 ⊢
    refine ⟨h3.1, ⟨fun y hy => hap y (apart y (.inr hy)), h3.2.1.2⟩, fun a ha c hc => ?_⟩
    rcases List.mem_cons.1 hc with rfl | hc
    · exact Ent.apart_symm (hap a (apart a (.inl ha)))
    · exact h3.2.2 a ha c (by simp [hc])
theorem Sts.setBox {w0 W : World} {L1 L2 : List (Key × List S30)} {b : Nat} {j : S30} (h : Sts w0 W (L1 ++ (boxAt b, [j]) :: L2)) (x y z : Int) :
    Sts w0 (((W.setCell ⟨b, 0, none⟩ (.int .i64 x)).setCell ⟨b, 1, none⟩ (.int .i64 y)).setCell ⟨b, 2, none⟩ (.int .i64 z)) (L1 ++ (boxAt b, [⟨x, y, z⟩]) :: L2) := by
  refine h.boxTo (fun B hB => (((Below.refl _ _).setCell hB _).setCell hB _).setCell hB _) (fun k hk => ?_) (fun hr => ?_)
  · exact (Below.heap_setCell _ ⟨b, 2, none⟩ _ k hk).trans ((Below.heap_setCell _ ⟨b, 1, none⟩ _ k hk).trans (Below.heap_setCell _ ⟨b, 0, none⟩ _ k hk))
  · refine ⟨rfl, ?_⟩
    rcases hr.2 with ⟨_, h4⟩ | ⟨g, cap, cur, h3, h5, h6, h7, h8, h9, _⟩
    · cases h4
    · injection h3 with h3 hn hc
      injection h3 with h3
      injection h3 with h3
      subst h3
      subst hc
      refine .inr ⟨b, 1, _, rfl, h5, blk_set (blk_set (blk_set h6 0 _) 1 _) 2 _, Nat.le_refl _, h8, by simpa using h9, ?_⟩
      have h10 : 3 ≤ cur.size := by omega
      clear h8 h9 h6 hr
      rcases cur with ⟨_ | ⟨a0, _ | ⟨a1, _ | ⟨a2, r⟩⟩⟩⟩
      · simp at h10
      · simp at h10
      · simp at h10
      · simp [enc3]
/-! Two parts, one above the other -/
theorem fold_stay (l : List S30) : ∀ m : Int, (∀ j ∈ l, j.f1 ≤ m) → l.foldl (fun m j => if m < j.f1 then j.f1 else m) m = m := by
  induction l with
  | nil => intro m _; rfl
  | cons x l ih =>
    intro m h
    rw [List.foldl_cons, if_neg (by have := h x List.mem_cons_self; omega)]
    exact ih m (fun j hj => h j (List.mem_cons_of_mem _ hj))
theorem placesFrom_append (p : Int) (m : List S30) : ∀ (l : List S30) (n : Nat), placesFrom p n (l ++ m) = placesFrom p n l ++ placesFrom p (n + l.length) m := by
  intro l
  induction l with
  | nil => intro n; rfl
  | cons x l ih =>
    intro n
    rw [List.cons_append, placesFrom, placesFrom, ih, show n + 1 + l.length = n + (x :: l).length by simp; omega]
    split <;> rfl
theorem parts_pick {ms ns : List S30} (hm : ∀ j ∈ ms, 51 ≤ j.f1 ∧ j.f1 ≤ 91) (hn : ∀ j ∈ ns, 1 ≤ j.f1 ∧ j.f1 ≤ 41) (hne : ms ≠ []) (p : Int) :
    0 < mxp ms ∧ 0 < (places ms (mxp ms)).length ∧ 0 < mxp (ms ++ ns) ∧ 0 < (places (ms ++ ns) (mxp (ms ++ ns))).length ∧ pickPlace (ms ++ ns) p = pickPlace ms p ∧ pickPlace ms p < ms.length ∧
    (ms ++ ns).getD (pickPlace ms p) z30 = ms.getD (pickPlace ms p) z30 ∧ (ms ++ ns).eraseIdx (pickPlace ms p) = ms.eraseIdx (pickPlace ms p) ++ ns := by
  have h1 : 51 ≤ mxp ms := by
    cases ms with
    | nil => exact absurd rfl hne
    | cons x l => have := (hm x List.mem_cons_self).1; have := mxp_ge (x :: l) x List.mem_cons_self; omega
  have h2 : mxp (ms ++ ns) = mxp ms := by
    unfold mxp
    rw [List.foldl_append]
    exact fold_stay ns _ (fun j hj => by have := (hn j hj).2; have : 51 ≤ mxp ms := h1; unfold mxp at this; omega)
  have h3 : places (ms ++ ns) (mxp ms) = places ms (mxp ms) := by
    unfold places
    rw [placesFrom_append, placesFrom_none _ ns _ (fun j hj => by have := (hn j hj).2; omega), List.append_nil]
  have h4 := places_pos (l := ms) (by omega)
  have h5 : pickPlace (ms ++ ns) p = pickPlace ms p := by unfold pickPlace; rw [h2, h3]
  obtain ⟨_, h6, _⟩ := pick_spec ms p h4
  refine ⟨by omega, h4, by omega, by rw [h2, h3]; exact h4, h5, h6, ?_, ?_⟩
  · rw [List.getD_eq_getElem?_getD, List.getD_eq_getElem?_getD, List.getElem?_append_left h6]
  · rw [List.eraseIdx_append_of_lt_length h6]
end Go.Proofs.Ytojdbpeaclnmkaa.Rd
