/- The reference's New: the same periods taken, a timer without anything that waits. -/
import Derived.Test.YtdpfbmhdbnkdaaaTmRTick
set_option linter.unusedVariables false
set_option linter.unusedSimpArgs false
namespace Go.Proofs.Ytdpfbmhdbnkdaaa.Tm
open Go Go.RowKit Go.Proofs.YtdpfbmhdbnkdaaaW.PrintWords Go.Proofs.YtdpfbmhdbnkdaaaW.PrintLast Go.Proofs.YtdpfbmhdbnkdaaaW.PrintMore Go.Proofs.Ytdpfbmhdbnkdaaa Go.Proofs.Ytdpfbmhdbnkdaaa.Print
attribute [local go_sem] max2_int min2_int max_two min_two
theorem Below.cellA {B : Nat} {W W' : World} (h : Below B W W') (hB : B = W.heap.size) {p : Addr} {v : Value} (hc : W.cell? p = some v) : W'.cell? p = some v := by
  subst hB
  have hlt : p.block < W.heap.size := World.block_lt_of_cell? W _ hc
  unfold World.cell? at hc ⊢
  rw [h.block p.block hlt]
  exact hc
set_option maxRecDepth 100000 in
set_option maxHeartbeats 4000000 in
theorem refNew {w0 W : World} {L : List Asn} (h : Has w0 W L) {ps : List Int} {A : Option Addr} {c : Nat} (hq : PkAt W A c ps) (hl : ps.length ≤ 20) : Calls Try.prog 12 #[.slice A ps.length c] W fun e w' => (PsOk ps ∧ ∃ g pb pc, e = .returned (.tuple #[.pointer (some ⟨g, 0, none⟩), .int .i64 0]) ∧ Has w0 w' (refA g (.slice (some ⟨pb, 0, none⟩) ps.length pc) 0 (.slice none 0 0) [] :: intA (.slice (some ⟨pb, 0, none⟩) ps.length pc) ps :: L)) ∨ (¬ PsOk ps ∧ e = .returned (.tuple #[.pointer none, .int .i64 1]) ∧ W = w') := by
  have HQ := Lib.hid hq
  have H0 := Lib.hid h
  clear hq h
  go_enter Try.func12, Try.ntmps12
  go_wp2_with fail
  go_loop [4] (fun vi => NewRel ps vi) (fun vi => ps.length - (intOf vi).toNat)
  case atStart => exact ⟨0, Nat.zero_le _, rfl, fun j hj => by omega⟩
  case round =>
    obtain ⟨k, hk, rfl, hall⟩ := hrel
    by_cases hkn : k < ps.length
    · obtain ⟨ad, rfl, hcell⟩ := HQ.out.2 k hkn
      have hkn' : (k : Int) < (ps.length : Int) := by omega
      have hk8 : k < 20 := by omega
      have tk : decide (ps.length ≤ k) = false := decide_eq_false (Nat.not_le.2 hkn)
      have hbadk : ¬ (1 ≤ ps.getD k 0 ∧ ps.getD k 0 ≤ 1048576) → ¬ PsOk ps := fun h h2 => h (((psok_iff ps).1 h2).2.2 k hkn)
      have hnext : (1 ≤ ps.getD k 0 ∧ ps.getD k 0 ≤ 1048576) → ∀ j, j < k + 1 → 1 ≤ ps.getD j 0 ∧ ps.getD j 0 ≤ 1048576 := fun h j hj => by
        rcases Nat.lt_succ_iff_lt_or_eq.1 hj with h3 | h3
        · exact hall j h3
        · rw [h3]; exact h
      generalize ps.getD k 0 = p at *
      replace hall := Lib.hid hall
      have hkn3 := Lib.hid hkn
      clear hkn hk
      by_cases hp1 : p < 1
      · have d1 : decide (p < 1) = true := decide_eq_true hp1
        have hbad := Lib.hid (hbadk (by omega))
        clear hbadk hnext hp1
        go_wp2_with fail
        go_ret2
        exact .inr ⟨hbad.out, rfl, rfl⟩
      · have d1 : decide (p < 1) = false := decide_eq_false hp1
        by_cases hp2 : 1048576 < p
        · have d2 : decide (1048576 < p) = true := decide_eq_true hp2
          have hbad := Lib.hid (hbadk (by omega))
          clear hbadk hnext hp1 hp2
          go_wp2_with fail
          go_ret2
          exact .inr ⟨hbad.out, rfl, rfl⟩
        · have d2 : decide (1048576 < p) = false := decide_eq_false hp2
          have hn := Lib.hid (hnext (by omega))
          clear hbadk hnext hp1 hp2
          go_wp2_with fail
          go_round
          case rel => exact ⟨k + 1, hkn3.out, by go_num, hn.out⟩
          case measure => have := hkn3.out; clear tk d1 d2; simp [intOf]; omega
    · have e0 : ¬ ((k : Int) < (ps.length : Int)) := by omega
      obtain rfl : k = ps.length := by omega
      clear hkn hk
      by_cases h0 : ps.length < 1
      · have hbad := Lib.hid (show ¬ PsOk ps from fun h => by have := h.pos; omega)
        have d1 : decide ((ps.length : Int) < 1) = true := decide_eq_true (by omega)
        clear hall h0
        go_wp2_with fail
        go_ret2
        exact .inr ⟨hbad.out, rfl, rfl⟩
      · have d1 : decide ((ps.length : Int) < 1) = false := decide_eq_false (by omega)
        by_cases h8 : 8 < ps.length
        · have hbad := Lib.hid (show ¬ PsOk ps from fun h => by have := h.le; omega)
          have d2 : decide ((8 : Int) < (ps.length : Int)) = true := decide_eq_true (by omega)
          clear hall h0 h8
          go_wp2_with fail
          go_ret2
          exact .inr ⟨hbad.out, rfl, rfl⟩
        · have d2 : decide ((8 : Int) < (ps.length : Int)) = false := decide_eq_false (by omega)
          have hok : PsOk ps := (psok_iff ps).2 ⟨by omega, by omega, hall⟩
          replace hok := Lib.hid hok
          obtain ⟨ad, rfl, _⟩ := HQ.out.2 0 hok.out.pos
          have hp0 := Lib.hid hok.out.pos
          clear hall h0 h8
          have K0 := Lib.hid (Has.ints H0.out [] (by simp))
          go_wp2_with (first | (at_builtin; refine wpList_append_loose _ 0 rfl (.tmp 31) (.tmp 32) 22 3 _ 1 8 rfl Try.underlying22 info3 rfl (by decide) (by decide) (.slice (some ⟨W.heap.size, 0, none⟩) 0 0) 0 [] (ps.map (Value.int .i64)) (some ad) ps.length c rfl rfl (by simp) (oneInts ps) ?hO ?src (Nat.zero_le _) ?len ?go) | fail)
          case hO => exact Has.row K0.out (by simp [intA])
          case src =>
            intro j x hx
            have hjl := (List.getElem?_eq_some_iff.1 hx).1
            obtain ⟨ad', h1, h2⟩ := HQ.out.2 j hjl
            injection h1 with h1
            subst h1
            rw [List.getD_eq_getElem?_getD, hx] at h2
            refine Below.cellA ((Below.refl W.heap.size W).alloc (Nat.le_refl _) _) rfl h2
          case len => omega
          case go =>
            intro v1 w1 hrow hg hat
            try rw [Nat.zero_add, List.nil_append] at hrow
            have K1 := Has.grow (L1 := []) (L2 := L) (v := .slice (some ⟨W.heap.size, 0, none⟩) 0 0) K0.out hg hrow (hat.imp id (fun h => by simpa using h))
            replace K1 := Lib.hid (show Has w0 w1 (intA v1 ps :: L) from K1)
            obtain ⟨n1, hn1⟩ : ∃ n1, ps.length = n1 + 1 := ⟨ps.length - 1, by have := hp0.out; omega⟩
            obtain ⟨pb, pc, rfl⟩ : ∃ pb pc, v1 = .slice (some ⟨pb, 0, none⟩) ps.length pc := by
              rw [hn1] at hrow ⊢
              obtain ⟨g1, c1, h1, h2, _⟩ := row_some hrow
              exact ⟨g1, c1, h1⟩
            clear hn1 n1
            have K2 := Lib.hid (Has.add (a := refA w1.heap.size (.slice (some ⟨pb, 0, none⟩) ps.length pc) 0 (.slice none 0 0) []) K1.out ((Below.refl _ _).alloc (Nat.le_refl _) (.cells #[.slice (some ⟨pb, 0, none⟩) ps.length pc, .int .i64 0, .slice none 0 0] 44)) [w1.heap.size] (by simp) ⟨rfl, heap_alloc_new w1 _, rfl, .inl ⟨rfl, rfl⟩⟩)
            clear hrow hg hat K0 K1
            go_wp2_with fail
            go_ret2
            exact .inl ⟨hok.out, _, pb, pc, rfl, K2.out⟩
end Go.Proofs.Ytdpfbmhdbnkdaaa.Tm
