/- A new timer, and a copy of one. -/
import Derived.Test.YtdpfbmhdbnkdaaaTmTick
import Derived.Carry
set_option linter.unusedVariables false
set_option linter.unusedSimpArgs false
namespace Go.Proofs.Ytdpfbmhdbnkdaaa.Tm
open Go Go.RowKit Go.Proofs.YtdpfbmhdbnkdaaaW.PrintWords Go.Proofs.YtdpfbmhdbnkdaaaW.PrintLast Go.Proofs.YtdpfbmhdbnkdaaaW.PrintMore Go.Proofs.Ytdpfbmhdbnkdaaa Go.Proofs.Ytdpfbmhdbnkdaaa.Print
attribute [local go_sem] max2_int min2_int max_two min_two
theorem psok_iff (ps : List Int) : PsOk ps ↔ (0 < ps.length ∧ ps.length ≤ 8 ∧ ∀ k, k < ps.length → 1 ≤ ps.getD k 0 ∧ ps.getD k 0 ≤ 1048576) := by
  constructor
  · rintro ⟨h1, h2, h3⟩
    exact ⟨h1, h2, fun k hk => h3 _ (by rw [List.getD_eq_getElem?_getD, List.getElem?_eq_getElem hk]; exact List.getElem_mem hk)⟩
  · rintro ⟨h1, h2, h3⟩
    refine ⟨h1, h2, fun p hp => ?_⟩
    obtain ⟨k, hk, rfl⟩ := List.getElem_of_mem hp
    have := h3 k hk
    rwa [List.getD_eq_getElem?_getD, List.getElem?_eq_getElem hk] at this
def NewOk (w : World) (ps : List Int) (e : Ending) (w' : World) : Prop := ∃ g m pb pc, e = .returned (.tuple #[.pointer (some ⟨g, 0, none⟩), .int .i64 0]) ∧ TimAt w' g m (.slice (some ⟨pb, 0, none⟩) ps.length pc) 0 [] ∧ LRow w' w.heap.size 3 1 (.slice (some ⟨pb, 0, none⟩) ps.length pc) ps.length (ps.map (Value.int .i64)) ∧ Below w.heap.size w w' ∧ w.heap.size ≤ g ∧ w.heap.size ≤ m ∧ pb ≠ g ∧ pb ≠ m
def NewPost (w : World) (ps : List Int) (e : Ending) (w' : World) : Prop := (PsOk ps ∧ NewOk w ps e w') ∨ (¬ PsOk ps ∧ e = .returned (.tuple #[.pointer none, .int .i64 1]) ∧ w = w')
def NewRel (ps : List Int) (vi : Value) : Prop := ∃ k : Nat, k ≤ ps.length ∧ vi = .int .i64 k ∧ ∀ j, j < k → 1 ≤ ps.getD j 0 ∧ ps.getD j 0 ≤ 1048576
theorem oneInts (ps : List Int) : ∀ u ∈ ps.map (Value.int .i64), u.oneCell' = true := by
  intro u hu
  obtain ⟨x, _, rfl⟩ := List.mem_map.1 hu
  rfl
set_option maxRecDepth 100000 in
set_option maxHeartbeats 4000000 in
theorem new_any (ps : List Int) (A : Option Addr) (c : Nat) (w : World) (hq : PkAt w A c ps) : Calls Try.prog 11 #[.slice A ps.length c] w (NewPost w ps) := by
  have HQ := Lib.hid hq
  clear hq
  have hmm := @run_makeMap Try.prog
  by_cases h0 : ps.length = 0
  · have hbad : ¬ PsOk ps := fun h => by have := h.pos; omega
    have t0 : ((ps.length : Int) == 0) = true := by simp [h0]
    replace hbad := Lib.hid hbad
    replace h0 := Lib.hid h0
    replace hmm := Lib.hid hmm
    go_enter Try.func11, Try.ntmps11
    go_wp2_with fail
    go_ret2
    exact .inr ⟨hbad.out, rfl, rfl⟩
  · have t0 : ((ps.length : Int) == 0) = false := by simpa using h0
    by_cases h8 : 8 < ps.length
    · have hbad : ¬ PsOk ps := fun h => by have := h.le; omega
      have t1 : decide ((8 : Int) < (ps.length : Int)) = true := decide_eq_true (by omega)
      replace hbad := Lib.hid hbad
      replace hmm := Lib.hid hmm
      clear h0 h8
      go_enter Try.func11, Try.ntmps11
      go_wp2_with fail
      go_ret2
      exact .inr ⟨hbad.out, rfl, rfl⟩
    · have t1 : decide ((8 : Int) < (ps.length : Int)) = false := decide_eq_false (by omega)
      have hl : 0 < ps.length ∧ ps.length ≤ 8 := ⟨by omega, by omega⟩
      replace hl := Lib.hid hl
      replace hmm := Lib.hid hmm
      clear h0 h8
      go_enter Try.func11, Try.ntmps11
      go_wp2_with fail
      go_loop [16] (fun vi => NewRel ps vi) (fun vi => ps.length - (intOf vi).toNat)
      case atStart => exact ⟨0, Nat.zero_le _, rfl, fun j hj => by omega⟩
      case round =>
        obtain ⟨k, hk, rfl, hall⟩ := hrel
        by_cases hkn : k < ps.length
        · obtain ⟨ad, rfl, hcell⟩ := HQ.out.2 k hkn
          have hkn' : (k : Int) < (ps.length : Int) := by omega
          have hk8 : k < 8 := by have := hl.out.2; omega
          have hbadk : ¬ (1 ≤ ps.getD k 0 ∧ ps.getD k 0 ≤ 1048576) → ¬ PsOk ps := fun h h2 => h (((psok_iff ps).1 h2).2.2 k hkn)
          have hnext : (1 ≤ ps.getD k 0 ∧ ps.getD k 0 ≤ 1048576) → ∀ j, j < k + 1 → 1 ≤ ps.getD j 0 ∧ ps.getD j 0 ≤ 1048576 := fun h j hj => by
            rcases Nat.lt_succ_iff_lt_or_eq.1 hj with h3 | h3
            · exact hall j h3
            · rw [h3]; exact h
          generalize ps.getD k 0 = p at *
          replace hall := Lib.hid hall
          by_cases hp1 : p < 1
          · have d1 : decide (p < 1) = true := decide_eq_true hp1
            have hbad := Lib.hid (hbadk (by omega))
            clear hbadk hnext hp1
            go_wp2_with fail
            go_ret2
            exact .inr ⟨hbad.out, rfl, rfl⟩
          · have d1 : decide (p < 1) = false := decide_eq_false hp1
            by_cases hp2 : 1048576 < p
            · have d2 : decide (1048576 < p) = true := decide_eq_true hp2
              have hbad := Lib.hid (hbadk (by omega))
              clear hbadk hnext hp1 hp2
              go_wp2_with fail
              go_ret2
              exact .inr ⟨hbad.out, rfl, rfl⟩
            · have d2 : decide (1048576 < p) = false := decide_eq_false hp2
              have hn := Lib.hid (hnext (by omega))
              clear hbadk hnext hp1 hp2
              go_wp2_with fail
              go_round
              case rel => exact ⟨k + 1, by omega, by go_num, hn.out⟩
              case measure => simp [intOf]; omega
        · have e0 : ¬ ((k : Int) < (ps.length : Int)) := by omega
          obtain rfl : k = ps.length := by omega
          have hok : PsOk ps := (psok_iff ps).2 ⟨hl.out.1, hl.out.2, hall⟩
          replace hok := Lib.hid hok
          obtain ⟨ad, rfl, _⟩ := HQ.out.2 0 hl.out.1
          clear hall
          replace hmm := hmm.out
          go_wp2_with (first | (at_builtin; refine wpList_append_loose _ w.heap.size rfl (.const (.slice none 0 0)) (.tmp 27) 22 3 _ 1 8 rfl Try.underlying22 info3 rfl (by decide) (by decide) (.slice none 0 0) 0 [] (ps.map (Value.int .i64)) (some ad) ps.length c rfl rfl (by simp) (oneInts ps) ⟨rfl, .inl ⟨rfl, rfl⟩⟩ ?src (Nat.le_refl _) ?len ?go) | fail)
          case src =>
            intro j x hx
            have hjl := (List.getElem?_eq_some_iff.1 hx).1
            obtain ⟨ad', h1, h2⟩ := HQ.out.2 j hjl
            injection h1 with h1
            subst h1
            rw [List.getD_eq_getElem?_getD, hx] at h2
            exact h2
          case len => have := hl.out.2; omega
          case go =>
            intro v1 w1 hrow hg hat
            try rw [Nat.zero_add, List.nil_append] at hrow
            have hb1 : Below w.heap.size w w1 := (Below.refl _ _).grown hg (Nat.le_refl _) (fun k hk => by simp [Value.ownBlock] at hk)
            obtain ⟨n1, hn1⟩ : ∃ n1, ps.length = n1 + 1 := ⟨ps.length - 1, by have := hl.out.1; omega⟩
            obtain ⟨pb, pc, rfl, hpb⟩ : ∃ pb pc, v1 = .slice (some ⟨pb, 0, none⟩) ps.length pc ∧ w.heap.size ≤ pb := by
              rw [hn1] at hrow ⊢
              obtain ⟨g1, c1, h1, h2, _⟩ := row_some hrow
              exact ⟨g1, c1, h1, h2⟩
            have hpl := (LRow.lt hrow pb rfl).1
            have hfin : TimAt ((w1.alloc (.map #[] 0)).alloc (.cells #[.slice (some ⟨pb, 0, none⟩) ps.length pc, .int .i64 0, .map (some w1.heap.size)] 53)) (w1.heap.size + 1) w1.heap.size (.slice (some ⟨pb, 0, none⟩) ps.length pc) 0 [] :=
              ⟨by have := heap_alloc_new (w1.alloc (.map #[] 0)) (.cells #[.slice (some ⟨pb, 0, none⟩) ps.length pc, .int .i64 0, .map (some w1.heap.size)] 53); simpa using this, (MapIs.made w1).move (Below.heap_alloc _ _ _ (by simp))⟩
            have hrow2 := LRow.step hrow (((Below.refl _ _).alloc (Nat.le_refl _) (.map #[] 0)).alloc (by simp) (.cells #[.slice (some ⟨pb, 0, none⟩) ps.length pc, .int .i64 0, .map (some w1.heap.size)] 53))
            have hb2 := (hb1.alloc hb1.size (.map #[] 0)).alloc (by have := hb1.size; simp; omega) (.cells #[.slice (some ⟨pb, 0, none⟩) ps.length pc, .int .i64 0, .map (some w1.heap.size)] 53)
            have hsz := hb1.size
            replace hrow := Lib.hid hrow
            replace hb1 := Lib.hid hb1
            replace hb2 := Lib.hid hb2
            replace hfin := Lib.hid hfin
            replace hrow2 := Lib.hid hrow2
            replace hn1 := Lib.hid hn1
            replace hsz := Lib.hid hsz
            replace hpl := Lib.hid hpl
            clear hg hat
            go_wp2_with fail
            go_ret2
            exact .inl ⟨hok.out, _, _, pb, pc, rfl, hfin.out, hrow2.out, hb2.out, by have := hsz.out; omega, hsz.out, by have := hpl.out; omega, by have := hpl.out; omega⟩
end Go.Proofs.Ytdpfbmhdbnkdaaa.Tm
