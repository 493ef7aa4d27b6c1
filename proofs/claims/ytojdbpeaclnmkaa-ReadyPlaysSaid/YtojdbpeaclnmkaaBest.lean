/- The set's best: the greatest priority, and the places of those that have it. -/
import Derived.Test.YtojdbpeaclnmkaaSet
import Derived.Deep.QuietTactic
import Derived.BigQuiet
set_option linter.unusedVariables false
set_option linter.unusedSimpArgs false
namespace Go.Proofs.Ytojdbpeaclnmkaa.Rd
open Go Go.RowKit Go.Proofs.YtojdbpeaclnmkaaW.PrintWords Go.Proofs.YtojdbpeaclnmkaaW.PrintLast Go.Proofs.YtojdbpeaclnmkaaW.PrintMore Go.Proofs.Ytojdbpeaclnmkaa Go.Proofs.Ytojdbpeaclnmkaa.Print
/-- the greatest priority, 0 if there is none -/
def mxp (l : List S30) : Int := l.foldl (fun m j => if m < j.f1 then j.f1 else m) 0
/-- the places of those of priority p, from place n on -/
def placesFrom (p : Int) : Nat → List S30 → List Int
  | _, [] => []
  | n, j :: l => if j.f1 = p then (n : Int) :: placesFrom p (n + 1) l else placesFrom p (n + 1) l
def places (l : List S30) (p : Int) : List Int := placesFrom p 0 l
theorem mxp_snoc (l : List S30) (j : S30) : mxp (l ++ [j]) = if mxp l < j.f1 then j.f1 else mxp l := by
  unfold mxp
  rw [List.foldl_append]
  rfl
theorem fold_ge (l : List S30) : ∀ m : Int, m ≤ l.foldl (fun m j => if m < j.f1 then j.f1 else m) m ∧ ∀ j ∈ l, j.f1 ≤ l.foldl (fun m j => if m < j.f1 then j.f1 else m) m := by
  induction l with
  | nil => intro m; exact ⟨Int.le_refl _, fun j h => by cases h⟩
  | cons x l ih =>
    intro m
    rw [List.foldl_cons]
    obtain ⟨h1, h2⟩ := ih (if m < x.f1 then x.f1 else m)
    have h3 : m ≤ (if m < x.f1 then x.f1 else m) ∧ x.f1 ≤ (if m < x.f1 then x.f1 else m) := by split <;> omega
    refine ⟨by omega, fun j hj => ?_⟩
    rcases List.mem_cons.1 hj with rfl | hj
    · omega
    · exact h2 j hj
theorem mxp_ge (l : List S30) (j : S30) (h : j ∈ l) : j.f1 ≤ mxp l := (fold_ge l 0).2 j h
theorem mxp_nonneg (l : List S30) : 0 ≤ mxp l := (fold_ge l 0).1
theorem placesFrom_snoc (p : Int) (j : S30) : ∀ (l : List S30) (n : Nat), placesFrom p n (l ++ [j]) = placesFrom p n l ++ (if j.f1 = p then [((n + l.length : Nat) : Int)] else []) := by
  intro l
  induction l with
  | nil => intro n; simp [placesFrom]
  | cons x l ih =>
    intro n
    rw [List.cons_append, placesFrom, placesFrom, ih (n + 1), List.length_cons, show n + 1 + l.length = n + (l.length + 1) by omega]
    split
    · rfl
    · rfl
theorem places_snoc (l : List S30) (j : S30) (p : Int) : places (l ++ [j]) p = places l p ++ (if j.f1 = p then [(l.length : Int)] else []) := by
  have := placesFrom_snoc p j l 0
  rw [Nat.zero_add] at this
  exact this
theorem placesFrom_none (p : Int) : ∀ (l : List S30) (n : Nat), (∀ j ∈ l, j.f1 ≠ p) → placesFrom p n l = [] := by
  intro l
  induction l with
  | nil => intro n _; rfl
  | cons x l ih =>
    intro n h
    rw [placesFrom, if_neg (h x List.mem_cons_self), ih (n + 1) (fun j hj => h j (List.mem_cons_of_mem _ hj))]
theorem placesFrom_len (p : Int) : ∀ (l : List S30) (n : Nat), (placesFrom p n l).length ≤ l.length := by
  intro l
  induction l with
  | nil => intro n; exact Nat.le_refl _
  | cons x l ih =>
    intro n
    rw [placesFrom]
    have := ih (n + 1)
    split
    · rw [List.length_cons, List.length_cons]; omega
    · rw [List.length_cons]; omega
theorem take_snoc (l : List S30) (k : Nat) (h : k < l.length) : l.take (k + 1) = l.take k ++ [l.getD k z30] := by
  rw [List.getD_eq_getElem?_getD, List.getElem?_eq_getElem h]
  exact List.take_succ_eq_append_getElem h
/-- A row of places of the call's own. -/
def IsAt (w : World) (B : Nat) (v : Value) (L : List Int) : Prop := LRow w B 3 1 v L.length (L.map (Value.int .i64))
theorem IsAt.nil (w : World) (B : Nat) : IsAt w B (.slice none 0 0) [] := ⟨rfl, .inl ⟨rfl, rfl⟩⟩
theorem IsAt.cut {w : World} {B n c : Nat} {A : Option Addr} {L : List Int} (h : IsAt w B (.slice A n c) L) : IsAt w B (.slice A 0 0) [] := by
  obtain ⟨h1, h2⟩ := h
  refine ⟨rfl, ?_⟩
  rcases h2 with ⟨h3, _⟩ | ⟨g, cap, cur, h3, h4, h5, _⟩
  · injection h3 with h3 _ _
    rw [h3]
    exact .inl ⟨rfl, rfl⟩
  · injection h3 with h3 _ _
    rw [h3]
    exact .inr ⟨g, 0, cur, rfl, h4, h5, Nat.le_refl _, Nat.zero_le _, by omega, by simp⟩
theorem IsAt.step {w w1 : World} {B : Nat} {v : Value} {L : List Int} (h : IsAt w B v L) (hb : Below w.heap.size w w1) : IsAt w1 B v L := h.move (fun k hk => hb.block k (h.lt k hk).1)
theorem at_next {w wr W w1 : World} {B : Nat} {v : Value} {L : List Int} (hb : Below B w wr) (hB : B ≤ wr.heap.size) (h : IsAt wr B v L) (hW : Below wr.heap.size wr W) (hg : W.grownBy w1 v.ownBlock) : Below B w w1 :=
  (hb.trans (hW.mono hB)).grown hg (Nat.le_trans hB hW.size) (fun k hk => (h.lt k hk).2.1)
theorem info3 : (Try.prog.info? 3).map (fun i => (i.zero, i.size, i.bytes)) = some (some (.int .i64 0), 1, 8) := by kernel_rfl
theorem oneInt (k : Int) : ∀ u ∈ [Value.int .i64 k], u.oneCell' = true := by
  intro u hu
  rw [List.mem_singleton.1 hu]
  rfl
def BestPost (w : World) (l : List S30) (e : Ending) (w' : World) : Prop := ∃ va, e = .returned (.tuple #[va, .int .i64 (mxp l)]) ∧ IsAt w' w.heap.size va (places l (mxp l)) ∧ Below w.heap.size w w'
def BestRel (w : World) (l : List S30) (va vp vi : Value) (wr : World) : Prop := ∃ k : Nat, k ≤ l.length ∧ vi = .int .i64 k ∧ vp = .int .i64 (mxp (l.take k)) ∧ IsAt wr w.heap.size va (places (l.take k) (mxp (l.take k))) ∧ Below w.heap.size w wr
set_option maxHeartbeats 2000000 in
theorem best_any (g B : Nat) (v : Value) (l : List S30) (w : World) (hs : SetIs 58 30 w B g v l) (hl : l.length ≤ 10000) : Calls Try.prog 23 #[.pointer (some ⟨g, 0, none⟩)] w (BestPost w l) := by
  obtain ⟨A, c, rfl, hlc⟩ := hs.slice
  have hc := hs.cell
  have hlt := hs.lt
  have HS := Lib.hid hs
  have HL := Lib.hid hl
  clear hs hlc hl
  go_enter Try.func23, Try.ntmps23
  go_wp2_with fail
  go_loopw [4, 5, 13] (fun va vp vi wr => BestRel w l va vp vi wr) (fun _ _ vi _ => l.length - (intOf vi).toNat)
  case atStart => exact ⟨0, Nat.zero_le _, rfl, rfl, IsAt.nil _ _, Below.refl _ _⟩
  case round =>
    obtain ⟨k, hk, rfl, rfl, hat, hb⟩ := hrel
    by_cases hlk : k < l.length
    · obtain ⟨b, rfl, c0, c1, c2⟩ := HS.out.elem k hlk
      have hbl : b < w.heap.size := World.block_lt_of_cell? w _ c0
      have d0 := (hb.cell (p := ⟨b, k * 3, none⟩) hbl).trans c0
      have d1 := (hb.cell (p := ⟨b, k * 3 + 1, none⟩) hbl).trans c1
      have d2 := (hb.cell (p := ⟨b, k * 3 + 2, none⟩) hbl).trans c2
      clear c0 c1 c2
      have hbl2 : b < wr.heap.size := Nat.lt_of_lt_of_le hbl hb.size
      have htk := take_snoc l k hlk
      have hms := mxp_snoc (l.take k) (l.getD k z30)
      have hpl := places_snoc (l.take k) (l.getD k z30)
      have hge : ∀ j ∈ l.take k, j.f1 ≤ mxp (l.take k) := fun j hj => mxp_ge _ j hj
      rw [← htk] at hms
      rw [← htk] at hpl
      rw [show (l.take k).length = k by simp; omega] at hpl
      generalize l.getD k z30 = x at *
      generalize hM : mxp (l.take k) = M at *
      generalize hP : places (l.take k) M = R at *
      have hRk : R.length ≤ k := by rw [← hP]; have := placesFrom_len M (l.take k) 0; simp at this; unfold places; omega
      replace hms := Lib.hid hms
      replace hpl := Lib.hid hpl
      replace hge := Lib.hid hge
      replace htk := Lib.hid htk
      replace hM := Lib.hid hM
      replace hP := Lib.hid hP
      replace hRk := Lib.hid hRk
      obtain ⟨A1, c1', rfl, _⟩ := hat.slice
      replace hat := Lib.hid hat
      replace hb := Lib.hid hb
      clear hc hlt
      have hlk' : (k : Int) < (l.length : Int) := by omega
      have hkb : k < 10000 := by have := HL.out; omega
      rcases Int.lt_trichotomy M x.f1 with h | h | h
      · have e1 : decide (M < x.f1) = true := decide_eq_true h
        replace h := Lib.hid h
        cases A1 with
        | none =>
          go_wp2_with fail
          go_quiet (fail)
          go_wp2_with (first | (at_builtin; refine wpList_append_loose _ w.heap.size rfl (.tmp 30) (.tmp 32) 59 3 (.int .i64 0) 1 8 rfl Try.underlying59 info3 rfl (by decide) (by decide) (.slice none 0 0) 0 [] [.int .i64 k] (some ⟨_, 0, none⟩) 1 1 rfl rfl rfl (oneInt k) ?row (.inr ⟨_, rfl, ?src⟩) ?low ?len ?go))
          case row => exact (hat.out.cut).step (by repeat (first | exact Below.refl _ _ | (with_reducible first | apply below_alloc | apply pw_below_drewN | apply below_drew1)))
          case src => first | (have hh := cell_one_new (World.drewN (wr.alloc (.cells #[.int .i64 x.f0, .int .i64 x.f1, .int .i64 x.f2] 30)) nq) (.int .i64 k) 3; rw [show (World.drewN (wr.alloc (.cells #[.int .i64 x.f0, .int .i64 x.f1, .int .i64 x.f2] 30)) nq).heap.size = wr.heap.size + 1 from Array.size_push ..] at hh; exact hh) | (intro jj u hj; match jj, hj with | 0, hj => simp at hj; subst hj; simp [Addr.add])
          case low => have := hb.out.size; simp; omega
          case len => have := HL.out; have := hRk.out; first | omega | (simp; omega)
          case go =>
            intro v1 w1 hrow hg hr1
            have hbn : Below w.heap.size w w1 := at_next hb.out hb.out.size (hat.out.cut) (by repeat (first | exact Below.refl _ _ | (with_reducible first | apply below_alloc | apply pw_below_drewN | apply below_drew1))) hg
            obtain ⟨A2, c2', rfl, _⟩ := hrow.slice
            replace hrow := Lib.hid hrow
            clear hg hr1
            replace hbn := Lib.hid hbn
            go_wp2_with fail
            go_roundw
            case rel => exact ⟨k + 1, by omega, by go_num, by rw [hms.out, if_pos h.out], by rw [hms.out, if_pos h.out, hpl.out, if_pos rfl, show places (l.take k) x.f1 = [] from placesFrom_none _ _ _ (fun j hj => by have := hge.out j hj; have := h.out; omega)]; exact hrow.out, hbn.out⟩
            case measure => simp [intOf]; omega
        | some a1 =>
          go_wp2_with fail
          go_quiet (fail)
          go_wp2_with (first | (at_builtin; refine wpList_append_loose _ w.heap.size rfl (.tmp 30) (.tmp 32) 59 3 (.int .i64 0) 1 8 rfl Try.underlying59 info3 rfl (by decide) (by decide) (.slice (some a1) 0 0) 0 [] [.int .i64 k] (some ⟨_, 0, none⟩) 1 1 rfl rfl rfl (oneInt k) ?row (.inr ⟨_, rfl, ?src⟩) ?low ?len ?go))
          case row => exact (hat.out.cut).step (by repeat (first | exact Below.refl _ _ | (with_reducible first | apply below_alloc | apply pw_below_drewN | apply below_drew1)))
          case src => first | (have hh := cell_one_new (World.drewN (wr.alloc (.cells #[.int .i64 x.f0, .int .i64 x.f1, .int .i64 x.f2] 30)) nq) (.int .i64 k) 3; rw [show (World.drewN (wr.alloc (.cells #[.int .i64 x.f0, .int .i64 x.f1, .int .i64 x.f2] 30)) nq).heap.size = wr.heap.size + 1 from Array.size_push ..] at hh; exact hh) | (intro jj u hj; match jj, hj with | 0, hj => simp at hj; subst hj; simp [Addr.add])
          case low => have := hb.out.size; simp; omega
          case len => have := HL.out; have := hRk.out; first | omega | (simp; omega)
          case go =>
            intro v1 w1 hrow hg hr1
            have hbn : Below w.heap.size w w1 := at_next hb.out hb.out.size (hat.out.cut) (by repeat (first | exact Below.refl _ _ | (with_reducible first | apply below_alloc | apply pw_below_drewN | apply below_drew1))) hg
            obtain ⟨A2, c2', rfl, _⟩ := hrow.slice
            replace hrow := Lib.hid hrow
            clear hg hr1
            replace hbn := Lib.hid hbn
            go_wp2_with fail
            go_roundw
            case rel => exact ⟨k + 1, by omega, by go_num, by rw [hms.out, if_pos h.out], by rw [hms.out, if_pos h.out, hpl.out, if_pos rfl, show places (l.take k) x.f1 = [] from placesFrom_none _ _ _ (fun j hj => by have := hge.out j hj; have := h.out; omega)]; exact hrow.out, hbn.out⟩
            case measure => simp [intOf]; omega
      · have e1 : decide (M < x.f1) = false := decide_eq_false (by omega)
        have e2 : (x.f1 == M) = true := beq_iff_eq.mpr h.symm
        replace h := Lib.hid h
        go_wp2_with (first | (at_builtin; refine wpList_append_loose _ w.heap.size rfl (.tmp 30) (.tmp 32) 59 3 (.int .i64 0) 1 8 rfl Try.underlying59 info3 rfl (by decide) (by decide) (.slice A1 R.length c1') R.length (R.map (Value.int .i64)) [.int .i64 k] (some ⟨_, 0, none⟩) 1 1 rfl rfl rfl (oneInt k) ?row (.inr ⟨_, rfl, ?src⟩) ?low ?len ?go))
        case row => exact (hat.out).step (by repeat (first | exact Below.refl _ _ | (with_reducible first | apply below_alloc | apply pw_below_drewN | apply below_drew1)))
        case src => first | (have hh := cell_one_new (World.drewN (wr.alloc (.cells #[.int .i64 x.f0, .int .i64 x.f1, .int .i64 x.f2] 30)) nq) (.int .i64 k) 3; rw [show (World.drewN (wr.alloc (.cells #[.int .i64 x.f0, .int .i64 x.f1, .int .i64 x.f2] 30)) nq).heap.size = wr.heap.size + 1 from Array.size_push ..] at hh; exact hh) | (intro jj u hj; match jj, hj with | 0, hj => simp at hj; subst hj; simp [Addr.add])
        case low => have := hb.out.size; simp; omega
        case len => have := HL.out; have := hRk.out; first | omega | (simp; omega)
        case go =>
          intro v1 w1 hrow hg hr1
          have hbn : Below w.heap.size w w1 := at_next hb.out hb.out.size (hat.out) (by repeat (first | exact Below.refl _ _ | (with_reducible first | apply below_alloc | apply pw_below_drewN | apply below_drew1))) hg
          obtain ⟨A2, c2', rfl, _⟩ := hrow.slice
          replace hrow := Lib.hid hrow
          clear hg hr1
          replace hbn := Lib.hid hbn
          go_wp2_with fail
          go_roundw
          case rel => exact ⟨k + 1, by omega, by go_num, by rw [hms.out, if_neg (by have := h.out; omega)], by rw [hms.out, if_neg (by have := h.out; omega), hpl.out, if_pos h.out.symm, hP.out]; have := hrow.out; unfold IsAt; rw [List.length_append, List.map_append]; exact this, hbn.out⟩
          case measure => simp [intOf]; omega
      · have e1 : decide (M < x.f1) = false := decide_eq_false (by omega)
        have e2 : (x.f1 == M) = false := beq_eq_false_iff_ne.mpr (by omega)
        replace h := Lib.hid h
        go_wp2_with fail
        go_roundw
        case rel => exact ⟨k + 1, by omega, by go_num, by rw [hms.out, if_neg (by have := h.out; omega)], by rw [hms.out, if_neg (by have := h.out; omega), hpl.out, if_neg (by have := h.out; omega), hP.out, List.append_nil]; exact hat.out.step (by repeat (first | exact Below.refl _ _ | (with_reducible first | apply below_alloc | apply pw_below_drewN | apply below_drew1))), hb.out.trans ((show Below wr.heap.size wr _ from (by repeat (first | exact Below.refl _ _ | (with_reducible first | apply below_alloc | apply pw_below_drewN | apply below_drew1)))).mono hb.out.size)⟩
        case measure => simp [intOf]; omega
    · have e0 : ¬ ((k : Int) < (l.length : Int)) := by omega
      obtain rfl : k = l.length := by omega
      rw [List.take_length] at hat ⊢
      have HA := Lib.hid hat
      have HB := Lib.hid hb
      clear hat hb
      go_wp2_with fail
      go_ret2
      exact ⟨_, rfl, HA.out, HB.out⟩
end Go.Proofs.Ytojdbpeaclnmkaa.Rd
