/- ReadyBest: the best is the greatest priority that was put and not taken; a set whose best is taken has a best that is no greater. -/
import Derived.Test.YtojdbpeaclnmkaaRdPure
set_option linter.unusedVariables false
set_option linter.unusedSimpArgs false
namespace Go.Proofs.Ytojdbpeaclnmkaa.Rd
open Go Go.RowKit Go.Proofs.YtojdbpeaclnmkaaW.PrintWords Go.Proofs.YtojdbpeaclnmkaaW.PrintLast Go.Proofs.YtojdbpeaclnmkaaW.PrintMore Go.Proofs.Ytojdbpeaclnmkaa Go.Proofs.Ytojdbpeaclnmkaa.Print
attribute [local go_sem] max2_int min2_int max_two min_two
def Best1 (w : World) (g : Nat) (l : List S30) (vm vi : Value) (wr : World) : Prop := ∃ k : Nat, k ≤ l.length ∧ vi = .int .i64 k ∧ vm = .int .i64 (mxp (filt (l.take k))) ∧ Sts w wr [(.set g, filt (l.take k))]
def Best2 (w : World) (g : Nat) (l : List S30) (vi : Value) (wr : World) : Prop := ∃ (k : Nat) (m : List S30), k ≤ l.length ∧ vi = .int .i64 k ∧ m.length + k ≤ l.length ∧ Good m ∧ Sts w wr [(.set g, m)]
theorem rbest_big (A : Option Addr) (c : Nat) (l : List S30) (w : World) (hl : 60 < l.length) : Calls Try.prog 8 #[.slice A l.length c] w fun e w' => e = .returned (.bool true) ∧ Below w.heap.size w w' := by
  have e1 : decide ((60 : Int) < (l.length : Int)) = true := decide_eq_true (by omega)
  clear hl
  have H0 : Sts w w [] := Sts.empty (Below.refl _ _)
  replace H0 := Lib.hid H0
  go_enter Try.func8, Try.ntmps8
  go_wp2_with fail
  refine (newS H0.out).mono ?_
  rintro e w1 ⟨g, rfl, H1⟩
  replace H1 := Lib.hid H1
  go_wp2_with fail
  refine (known_walk _).mono ?_
  rintro e w2 ⟨rfl, hb⟩
  have H2 := H1.out.below.trans (hb.mono H1.out.size)
  replace H2 := Lib.hid H2
  clear hb
  go_wp2_with fail
  go_ret
  exact ⟨rfl, H2.out⟩
set_option maxRecDepth 100000 in
set_option maxHeartbeats 2000000 in
theorem rbest_walk (A : Option Addr) (c : Nat) (l : List S30) (w : World) (hl : l.length ≤ 60) (hr : Kd.C k30 w A l.length l) (hc : l.length ≤ c) : Calls Try.prog 8 #[.slice A l.length c] w fun e w' => e = .returned (.bool true) ∧ Below w.heap.size w w' := by
  have e1 : decide ((60 : Int) < (l.length : Int)) = false := decide_eq_false (by omega)
  have H0 : Sts w w [] := Sts.empty (Below.refl _ _)
  replace H0 := Lib.hid H0
  have HR := Lib.hid hr
  have HL := Lib.hid hl
  clear hr hl hc
  go_enter Try.func8, Try.ntmps8
  go_wp2_with fail
  refine (newS H0.out).mono ?_
  rintro e w1 ⟨g, rfl, H1⟩
  replace H1 := Lib.hid H1
  go_wp2_with fail
  go_loopw [4, 5] (fun vm vi wr => Best1 w g l vm vi wr) (fun _ vi _ => l.length - (intOf vi).toNat)
  case atStart => exact ⟨0, Nat.zero_le _, rfl, rfl, H1.out⟩
  case round =>
    obtain ⟨k, hk, rfl, rfl, HS⟩ := hrel
    replace HS := Lib.hid HS
    by_cases hlk : k < l.length
    · obtain ⟨ad, rfl, c0, c1, c2, hab⟩ := elemIn HR.out HS.out.below k hlk
      have hkb : k < 60 := Nat.lt_of_lt_of_le hlk HL.out
      have hlk' : (k : Int) < (l.length : Int) := by omega
      have hfs := filt_snoc (l.take k) (l.getD k z30)
      rw [← take_snoc l k hlk] at hfs
      have hlen : (filt (l.take k)).length < 10000 := by have := filt_len (l.take k); simp at this; omega
      generalize hx : l.getD k z30 = x at *
      replace hx := Lib.hid hx
      replace hfs := Lib.hid hfs
      replace hlen := Lib.hid hlen
      generalize hM : mxp (filt (l.take k)) = M at *
      replace hM := Lib.hid hM
      by_cases ho : okJob x = true
      · have ho2 : 1 ≤ x.f1 ∧ x.f1 ≤ 100 := by simpa [okJob] using ho
        have d1 : decide ((1 : Int) ≤ x.f1) = true := decide_eq_true ho2.1
        have d2 : decide (x.f1 ≤ (100 : Int)) = true := decide_eq_true ho2.2
        have hnext : filt (l.take (k + 1)) = filt (l.take k) ++ [x] := by rw [hfs.out, if_pos ho]
        have hlen2 : (filt (l.take k) ++ [x]).length ≤ 10000 := by have := hlen.out; simp; omega
        replace hnext := Lib.hid hnext
        replace hlen2 := Lib.hid hlen2
        replace ho2 := Lib.hid ho2
        clear ho
        by_cases hm : M < x.f1
        · have hm2 : ¬ x.f1 ≤ M := by omega
          go_wp2_with fail
          refine (putS (L1 := []) (L2 := []) HS.out x.f0 x.f1 x.f2 ho2.out.1 ho2.out.2 hlen.out).mono ?_
          rintro e w2 ⟨rfl, H2⟩
          obtain ⟨ad', had, c0', c1', c2', hab'⟩ := elemIn HR.out H2.below k hlk
          obtain rfl : ad = ad' := by injection had
          rw [hx.out] at c0' c1' c2'
          replace H2 := Lib.hid H2
          clear had
          go_wp2_with fail
          refine (bestS (L1 := []) (L2 := []) H2.out hlen2.out).mono ?_
          rintro e w3 ⟨rfl, H3⟩
          rw [List.nil_append] at H3
          have hbest : mxp (filt (l.take k) ++ [x]) = x.f1 := by rw [mxp_snoc, hM.out, if_pos hm]
          rw [hbest]
          have hnx : Sts w w3 [(.set g, filt (l.take (k + 1)))] := by rw [hnext.out]; exact H3
          have hmx : x.f1 = mxp (filt (l.take (k + 1))) := by rw [hnext.out, hbest]
          replace hnx := Lib.hid hnx
          replace hmx := Lib.hid hmx
          clear H3 hbest
          go_wp2_with fail
          go_roundw
          case rel => exact ⟨k + 1, by omega, by go_num, by rw [hmx.out], hnx.out⟩
          case measure => simp [intOf]; omega
        · have hm2 : x.f1 ≤ M := by omega
          go_wp2_with fail
          refine (putS (L1 := []) (L2 := []) HS.out x.f0 x.f1 x.f2 ho2.out.1 ho2.out.2 hlen.out).mono ?_
          rintro e w2 ⟨rfl, H2⟩
          obtain ⟨ad', had, c0', c1', c2', hab'⟩ := elemIn HR.out H2.below k hlk
          obtain rfl : ad = ad' := by injection had
          rw [hx.out] at c0' c1' c2'
          replace H2 := Lib.hid H2
          clear had
          go_wp2_with fail
          refine (bestS (L1 := []) (L2 := []) H2.out hlen2.out).mono ?_
          rintro e w3 ⟨rfl, H3⟩
          rw [List.nil_append] at H3
          have hbest : mxp (filt (l.take k) ++ [x]) = M := by rw [mxp_snoc, hM.out, if_neg (by omega)]
          rw [hbest]
          have hnx : Sts w w3 [(.set g, filt (l.take (k + 1)))] := by rw [hnext.out]; exact H3
          have hmx : M = mxp (filt (l.take (k + 1))) := by rw [hnext.out, hbest]
          replace hnx := Lib.hid hnx
          replace hmx := Lib.hid hmx
          clear H3 hbest
          go_wp2_with fail
          go_roundw
          case rel => exact ⟨k + 1, by omega, by go_num, by rw [hmx.out], hnx.out⟩
          case measure => simp [intOf]; omega
      · have ho2 : x.f1 < 1 ∨ 100 < x.f1 := by
          have h3 : ¬ (1 ≤ x.f1 ∧ x.f1 ≤ 100) := by simpa [okJob] using ho
          omega
        have hnext : filt (l.take (k + 1)) = filt (l.take k) := by rw [hfs.out, if_neg ho, List.append_nil]
        have hnx : Sts w wr [(.set g, filt (l.take (k + 1)))] := by rw [hnext]; exact HS.out
        have hmx : M = mxp (filt (l.take (k + 1))) := by rw [hnext, hM.out]
        have hlen2 := Nat.le_of_lt hlen.out
        replace hnext := Lib.hid hnext
        replace hnx := Lib.hid hnx
        replace hmx := Lib.hid hmx
        replace hlen2 := Lib.hid hlen2
        clear ho
        by_cases hlow : x.f1 < 1
        · have d1 : decide ((1 : Int) ≤ x.f1) = false := decide_eq_false (by omega)
          replace ho2 := Lib.hid ho2
          go_wp2_with fail
          refine (putNo HS.out x.f0 x.f1 x.f2 ho2.out g).mono ?_
          rintro e w2 ⟨rfl, H2⟩
          obtain ⟨ad', had, c0', c1', c2', hab'⟩ := elemIn HR.out H2.below k hlk
          obtain rfl : ad = ad' := by injection had
          rw [hx.out] at c0' c1' c2'
          have hnx2 : Sts w w2 [(.set g, filt (l.take (k + 1)))] := by rw [hnext.out]; exact H2
          clear had
          replace hnx2 := Lib.hid hnx2
          replace H2 := Lib.hid H2
          go_wp2_with fail
          refine (bestS (L1 := []) (L2 := []) H2.out hlen2.out).mono ?_
          rintro e w3 ⟨rfl, H3⟩
          rw [hM.out]
          have hnx3 : Sts w w3 [(.set g, filt (l.take (k + 1)))] := by rw [hnext.out]; exact H3
          replace hnx3 := Lib.hid hnx3
          clear H3
          go_wp2_with fail
          go_roundw
          case rel => exact ⟨k + 1, by omega, by go_num, by rw [hmx.out], hnx3.out⟩
          case measure => simp [intOf]; omega
        · have d1 : decide ((1 : Int) ≤ x.f1) = true := decide_eq_true (by omega)
          have d2 : decide (x.f1 ≤ (100 : Int)) = false := decide_eq_false (by omega)
          replace ho2 := Lib.hid ho2
          go_wp2_with fail
          refine (putNo HS.out x.f0 x.f1 x.f2 ho2.out g).mono ?_
          rintro e w2 ⟨rfl, H2⟩
          obtain ⟨ad', had, c0', c1', c2', hab'⟩ := elemIn HR.out H2.below k hlk
          obtain rfl : ad = ad' := by injection had
          rw [hx.out] at c0' c1' c2'
          have hnx2 : Sts w w2 [(.set g, filt (l.take (k + 1)))] := by rw [hnext.out]; exact H2
          clear had
          replace hnx2 := Lib.hid hnx2
          replace H2 := Lib.hid H2
          go_wp2_with fail
          refine (bestS (L1 := []) (L2 := []) H2.out hlen2.out).mono ?_
          rintro e w3 ⟨rfl, H3⟩
          rw [hM.out]
          have hnx3 : Sts w w3 [(.set g, filt (l.take (k + 1)))] := by rw [hnext.out]; exact H3
          replace hnx3 := Lib.hid hnx3
          clear H3
          go_wp2_with fail
          go_roundw
          case rel => exact ⟨k + 1, by omega, by go_num, by rw [hmx.out], hnx3.out⟩
          case measure => simp [intOf]; omega
    · have e0 : ¬ ((k : Int) < (l.length : Int)) := by omega
      obtain rfl : k = l.length := by omega
      rw [List.take_length] at HS ⊢
      have HS2 : Best2 w g l (.int .i64 0) wr := ⟨0, filt l, Nat.zero_le _, rfl, by have := filt_len l; omega, filt_good l, HS.out⟩
      clear HS e0
      replace HS2 := Lib.hid HS2
      go_wp2_with fail
      go_loopw [7] (fun vi wr => Best2 w g l vi wr) (fun vi _ => l.length - (intOf vi).toNat)
      case atStart => exact HS2.out
      case round =>
        obtain ⟨k, m, hk, rfl, hml, hgm, HS⟩ := hrel
        replace HS := Lib.hid HS
        have hgp := mxp_good hgm
        have hg0 := mxp_nonneg m
        have hmz := fun h => mxp_zero (l := m) hgm h
        have hpos := fun h => places_pos (l := m) h
        have hsp := fun p h => pick_spec m p h
        have her := mxp_erase m
        have hml2 : m.length ≤ 10000 := by have := HL.out; omega
        replace hgm := Lib.hid hgm
        replace hmz := Lib.hid hmz
        replace hpos := Lib.hid hpos
        replace hsp := Lib.hid hsp
        replace her := Lib.hid her
        replace hml2 := Lib.hid hml2
        have hkb : k ≤ 60 := Nat.le_trans hk HL.out
        by_cases hlk : k < l.length
        · have hlk' : (k : Int) < (l.length : Int) := by omega
          go_wp2_with fail
          refine (bestS (L1 := []) (L2 := []) HS.out hml2.out).mono ?_
          rintro e w2 ⟨rfl, H2⟩
          replace H2 := Lib.hid H2
          by_cases hp : 0 < mxp m
          · have d1 : decide ((0 : Int) < mxp m) = true := decide_eq_true hp
            have hpp := hpos.out hp
            obtain ⟨_, q2, q3⟩ := hsp.out k hpp
            have her2 := her.out (pickPlace m k)
            replace hpp := Lib.hid hpp
            replace q3 := Lib.hid q3
            generalize hM : mxp m = M at *
            replace hM := Lib.hid hM
            generalize hi : pickPlace m (k : Int) = i at *
            have d2 : ¬ M < mxp (m.eraseIdx i) := by omega
            have d3 : decide (M < mxp (m.eraseIdx i)) = false := decide_eq_false d2
            have hel : (m.eraseIdx i).length + 1 = m.length := by rw [List.length_eraseIdx_of_lt q2]; omega
            replace hi := Lib.hid hi
            replace hel := Lib.hid hel
            replace q2 := Lib.hid q2
            clear d2 her2
            go_wp2_with fail
            refine (bestS (L1 := []) (L2 := []) H2.out hml2.out).mono ?_
            rintro e w3 ⟨rfl, H3⟩
            rw [hM.out]
            replace H3 := Lib.hid H3
            go_wp2_with fail
            have hT := fun (W : World) (h : Sts w W ([] ++ (.set g, m) :: [])) => takeS (L1 := []) (L2 := []) h hml2.out (M - 1) (k : Int) (by rw [hM.out]; exact hpp.out) (by rw [hM.out]; omega)
            rw [hi.out] at hT
            refine (hT _ H3.out).mono ?_
            clear hT
            rintro e w4 ⟨rfl, H4⟩
            have q4 : (m.getD i z30).f1 = M := q3.out
            rw [q4]
            generalize (m.getD i z30).f0 = x0
            generalize (m.getD i z30).f2 = x2
            have H5 : Sts w _ [(boxAt w4.heap.size, [⟨x0, M, x2⟩]), (.set g, m.eraseIdx i)] := H4.addBox x0 M x2
            replace H5 := Lib.hid H5
            clear H4 q4
            go_wp2_with fail
            refine (bestS (L1 := [(boxAt w4.heap.size, [⟨x0, M, x2⟩])]) (L2 := []) H5.out (by have := hel.out; have := hml2.out; omega)).mono ?_
            rintro e w5 ⟨rfl, H6⟩
            have H7 : Sts w w5 [(.set g, m.eraseIdx i)] := H6.sub (List.sublist_cons_self _ _)
            replace H7 := Lib.hid H7
            clear H6
            go_wp2_with fail
            go_roundw
            case rel => exact ⟨k + 1, m.eraseIdx i, by omega, by go_num, by have := hel.out; omega, hgm.out.erase i, H7.out⟩
            case measure => simp [intOf]; omega
          · have d1 : decide ((0 : Int) < mxp m) = false := decide_eq_false hp
            obtain rfl : m = [] := hmz.out (by omega)
            have HS9 := H2
            clear H2 HS hp
            go_wp2_with fail
            refine (bestS (L1 := []) (L2 := []) (l := []) HS9.out (by decide)).mono ?_
            rintro e w8 ⟨rfl, H8⟩
            have hz : mxp ([] : List S30) = 0 := rfl
            rw [hz]
            clear hz
            replace H8 := Lib.hid H8
            go_wp2_with fail
            refine (known_walk _).mono ?_
            rintro e w9 ⟨rfl, hb⟩
            have H9 := H8.out.below.trans (hb.mono H8.out.size)
            replace H9 := Lib.hid H9
            clear hb
            go_wp2_with fail
            go_ret
            exact ⟨rfl, H9.out⟩
        · have e0 : ¬ ((k : Int) < (l.length : Int)) := by omega
          obtain rfl : m = [] := List.eq_nil_of_length_eq_zero (by omega)
          have HS9 := HS
          clear HS
          go_wp2_with fail
          refine (bestS (L1 := []) (L2 := []) (l := []) HS9.out (by decide)).mono ?_
          rintro e w8 ⟨rfl, H8⟩
          have hz : mxp ([] : List S30) = 0 := rfl
          rw [hz]
          clear hz
          replace H8 := Lib.hid H8
          go_wp2_with fail
          refine (known_walk _).mono ?_
          rintro e w9 ⟨rfl, hb⟩
          have H9 := H8.out.below.trans (hb.mono H8.out.size)
          replace H9 := Lib.hid H9
          clear hb
          go_wp2_with fail
          go_ret
          exact ⟨rfl, H9.out⟩
theorem rbest_any (A : Option Addr) (c : Nat) (l : List S30) (w : World) (hr : Kd.C k30 w A l.length l) (hc : l.length ≤ c) : Calls Try.prog 8 #[.slice A l.length c] w fun e w' => e = .returned (.bool true) ∧ Below w.heap.size w w' := by
  by_cases h : 60 < l.length
  · exact rbest_big A c l w h
  · exact rbest_walk A c l w (by omega) hr hc
end Go.Proofs.Ytojdbpeaclnmkaa.Rd
