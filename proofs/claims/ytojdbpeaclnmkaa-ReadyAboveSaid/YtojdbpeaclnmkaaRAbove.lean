/- ReadyAbove: none is taken that is not above what is told; what is left is what was there without it, in order. -/
import Derived.Test.YtojdbpeaclnmkaaRdSame
import Derived.Test.YtojdbpeaclnmkaaRPicks
set_option linter.unusedVariables false
set_option linter.unusedSimpArgs false
namespace Go.Proofs.Ytojdbpeaclnmkaa.Rd
open Go Go.RowKit Go.Proofs.YtojdbpeaclnmkaaW.PrintWords Go.Proofs.YtojdbpeaclnmkaaW.PrintLast Go.Proofs.YtojdbpeaclnmkaaW.PrintMore Go.Proofs.Ytojdbpeaclnmkaa Go.Proofs.Ytojdbpeaclnmkaa.Print
attribute [local go_sem] max2_int min2_int max_two min_two
theorem above_pure (fl : List S30) (i k : Nat) (hi : i < fl.length) (hk : k ≤ (fl.eraseIdx i).length) (heq : ∀ m, m < k → (fl.eraseIdx i).getD m z30 = fl.getD m z30) (hne : k < (fl.eraseIdx i).length → (fl.eraseIdx i).getD k z30 ≠ fl.getD k z30) :
    fl.getD k z30 = fl.getD i z30 ∧ (fl.eraseIdx i).drop k = fl.drop (k + 1) := by
  have hlen : (fl.eraseIdx i).length + 1 = fl.length := by rw [List.length_eraseIdx_of_lt hi]; omega
  have lo : ∀ m, m < i → (fl.eraseIdx i).getD m z30 = fl.getD m z30 := fun m hm => by
    rw [List.getD_eq_getElem?_getD, List.getD_eq_getElem?_getD, List.getElem?_eraseIdx, if_pos hm]
  have hi' : ∀ m, i ≤ m → (fl.eraseIdx i).getD m z30 = fl.getD (m + 1) z30 := fun m hm => by
    rw [List.getD_eq_getElem?_getD, List.getD_eq_getElem?_getD, List.getElem?_eraseIdx, if_neg (by omega)]
  have hik : i ≤ k := by
    rcases Nat.lt_or_ge k i with h | h
    · exact absurd (lo k h) (hne (by omega))
    · exact h
  refine ⟨?_, ?_⟩
  · have key : ∀ d, i + d ≤ k → fl.getD (i + d) z30 = fl.getD i z30 := by
      intro d
      induction d with
      | zero => intro _; rfl
      | succ d ih =>
        intro h
        have h1 := heq (i + d) (by omega)
        rw [hi' (i + d) (by omega)] at h1
        rw [show i + (d + 1) = i + d + 1 by omega, h1, ih (by omega)]
    have := key (k - i) (by omega)
    rwa [show i + (k - i) = k by omega] at this
  · apply List.ext_getElem?
    intro m
    rw [List.getElem?_drop, List.getElem?_drop, List.getElem?_eraseIdx, if_neg (by omega)]
    congr 1
    omega
/-- a cut of a row, at its address or at its end -/
theorem rowAt {w : World} {B c k : Nat} {A A' : Option Addr} {l : List S30} (h : RowIs w B (.slice A l.length c) l) (hk : k ≤ l.length) (hl : l.length ≤ 1000000) (ha : k = l.length ∨ A' = A.map (·.add (k * 3))) : Kd.C k30 w A' (l.length - k) (l.drop k) := by
  have h0 := row_reads h k hk hl
  rcases ha with ha | ha
  · refine ⟨h0.1, h0.2.1, fun hn => by omega⟩
  · rw [ha]; exact h0
theorem plainN {W : World} {A : Option Addr} {c n : Nat} {l : List S30} (hn : l.length = n) (hr : Kd.C k30 W A n l) (hc : n ≤ c) (hl : l.length ≤ 100000) : Calls Try.prog 18 #[.slice A n c] W fun e w' => ∃ A' c', e = .returned (.slice A' l.length c') ∧ PlIs w' A' c' l ∧ Below W.heap.size W w' := by
  subst hn
  exact plainC hr hc hl
def AboveRel (w : World) (g bj : Nat) (va vb : Value) (x : S30) (fl fe : List S30) (vi : Value) (wr : World) : Prop := ∃ k : Nat, k ≤ fe.length ∧ vi = .int .i64 k ∧ (∀ m, m < k → fe.getD m z30 = fl.getD m z30) ∧ Sts w wr [(.row vb, fe), (boxAt bj, [x]), (.row va, fl), (.set g, fe)]
theorem neq_imp (z y : S30) (h : z ≠ y) : z.f0 = y.f0 → z.f1 = y.f1 → ¬ z.f2 = y.f2 := by
  intro h0 h1 h2
  apply h
  cases z
  cases y
  simp at h0 h1 h2
  subst h0 h1 h2
  rfl
theorem neq_bool (x y : S30) (h : x ≠ y) : ((x.f0 == y.f0) && ((x.f1 == y.f1) && (x.f2 == y.f2))) = false := by
  cases x
  cases y
  simp at h ⊢
  omega
theorem above_big (A : Option Addr) (c : Nat) (l : List S30) (a p : Int) (w : World) (hl : 60 < l.length) : Calls Try.prog 5 #[.slice A l.length c, .int .i64 a, .int .i64 p] w fun e w' => e = .returned (.bool true) ∧ Below w.heap.size w w' := by
  have e1 : decide ((60 : Int) < (l.length : Int)) = true := decide_eq_true (by omega)
  clear hl
  have H0 : Sts w w [] := Sts.empty (Below.refl _ _)
  replace H0 := Lib.hid H0
  go_enter Try.func5, Try.ntmps5
  go_wp2_with fail
  refine (newS H0.out).mono ?_
  rintro e w1 ⟨g, rfl, H1⟩
  replace H1 := Lib.hid H1
  go_wp2_with fail
  refine (known_walk _).mono ?_
  rintro e wk ⟨rfl, hb⟩
  have HZ := H1.out.below.trans (hb.mono H1.out.size)
  replace HZ := Lib.hid HZ
  clear hb
  go_wp2_with fail
  go_ret
  exact ⟨rfl, HZ.out⟩
set_option maxRecDepth 100000 in
set_option maxHeartbeats 16000000 in
theorem above_walk (A : Option Addr) (c : Nat) (l : List S30) (a p : Int) (w : World) (hl : l.length ≤ 60) (hr : Kd.C k30 w A l.length l) : Calls Try.prog 5 #[.slice A l.length c, .int .i64 a, .int .i64 p] w fun e w' => e = .returned (.bool true) ∧ Below w.heap.size w w' := by
  have e1 : decide ((60 : Int) < (l.length : Int)) = false := decide_eq_false (by omega)
  have H0 : Sts w w [] := Sts.empty (Below.refl _ _)
  replace H0 := Lib.hid H0
  have HR := Lib.hid hr
  have HL := Lib.hid hl
  clear hr hl
  go_enter Try.func5, Try.ntmps5
  go_wp2_with fail
  refine (newS H0.out).mono ?_
  rintro e w1 ⟨g, rfl, H1⟩
  replace H1 := Lib.hid H1
  go_wp2_with fail
  go_loopw [8] (fun vi wr => PutRel w g l vi wr) (fun vi _ => l.length - (intOf vi).toNat)
  case atStart => exact ⟨0, Nat.zero_le _, rfl, H1.out⟩
  case round =>
    obtain ⟨k, hk, rfl, HS⟩ := hrel
    replace HS := Lib.hid HS
    by_cases hlk : k < l.length
    · obtain ⟨ad, rfl, c0, c1, c2, hab⟩ := elemIn HR.out HS.out.below k hlk
      have hkb : k < 60 := Nat.lt_of_lt_of_le hlk HL.out
      have hlk' : (k : Int) < (l.length : Int) := by omega
      have hfs := filt_snoc (l.take k) (l.getD k z30)
      rw [← take_snoc l k hlk] at hfs
      have hlen : (filt (l.take k)).length < 10000 := by have := filt_len (l.take k); simp at this; omega
      generalize hx : l.getD k z30 = x at *
      replace hx := Lib.hid hx
      replace hfs := Lib.hid hfs
      replace hlen := Lib.hid hlen
      by_cases ho : okJob x = true
      · have ho2 : 1 ≤ x.f1 ∧ x.f1 ≤ 100 := by simpa [okJob] using ho
        have hnext : filt (l.take (k + 1)) = filt (l.take k) ++ [x] := by rw [hfs.out, if_pos ho]
        replace hnext := Lib.hid hnext
        replace ho2 := Lib.hid ho2
        clear ho
        go_wp2_with fail
        refine (putS (L1 := []) (L2 := []) HS.out x.f0 x.f1 x.f2 ho2.out.1 ho2.out.2 hlen.out).mono ?_
        rintro e w2 ⟨rfl, H2⟩
        have hnx : Sts w w2 [(.set g, filt (l.take (k + 1)))] := by rw [hnext.out]; exact H2
        replace hnx := Lib.hid hnx
        clear H2
        go_wp2_with fail
        go_roundw
        case rel => exact ⟨k + 1, by omega, by go_num, hnx.out⟩
        case measure => simp [intOf]; omega
      · have ho2 : x.f1 < 1 ∨ 100 < x.f1 := by
          have h3 : ¬ (1 ≤ x.f1 ∧ x.f1 ≤ 100) := by simpa [okJob] using ho
          omega
        have hnext : filt (l.take (k + 1)) = filt (l.take k) := by rw [hfs.out, if_neg ho, List.append_nil]
        replace hnext := Lib.hid hnext
        replace ho2 := Lib.hid ho2
        clear ho
        go_wp2_with fail
        refine (putNo HS.out x.f0 x.f1 x.f2 ho2.out g).mono ?_
        rintro e w2 ⟨rfl, H2⟩
        have hnx : Sts w w2 [(.set g, filt (l.take (k + 1)))] := by rw [hnext.out]; exact H2
        replace hnx := Lib.hid hnx
        clear H2
        go_wp2_with fail
        go_roundw
        case rel => exact ⟨k + 1, by omega, by go_num, hnx.out⟩
        case measure => simp [intOf]; omega
    · have e0 : ¬ ((k : Int) < (l.length : Int)) := by omega
      obtain rfl : k = l.length := by omega
      rw [List.take_length] at HS
      have hfl : (filt l).length ≤ 60 := Nat.le_trans (filt_len l) HL.out
      have hgood := filt_good l
      generalize filt l = fl at *
      replace hgood := Lib.hid hgood
      clear hk hlk
      go_wp2_with fail
      refine (allS (L1 := []) (L2 := []) HS.out (by omega)).mono ?_
      rintro e w3 ⟨A3, c3, hc3, rfl, H3⟩
      replace H3 := Lib.hid H3
      go_wp2_with fail
      refine (bestS (L1 := [(.row (.slice A3 fl.length c3), fl)]) (L2 := []) H3.out (by omega)).mono ?_
      rintro e w4 ⟨rfl, H4⟩
      replace H4 := Lib.hid H4
      by_cases hma : mxp fl ≤ a
      · have d1 : decide (mxp fl ≤ a) = true := decide_eq_true hma
        go_wp2_with fail
        refine (takeNoS (L1 := [(.row (.slice A3 fl.length c3), fl)]) (L2 := []) H4.out (by omega) a p (.inr hma)).mono ?_
        rintro e w5 ⟨rfl, H5⟩
        have H5b : Sts w _ [(boxAt w5.heap.size, [⟨0, 0, 0⟩]), (.row (.slice A3 fl.length c3), fl), (.set g, fl)] := H5.addBox 0 0 0
        replace H5b := Lib.hid H5b
        clear H5
        go_wp2_with fail
        refine (allS (L1 := [(boxAt w5.heap.size, [⟨0, 0, 0⟩]), (.row (.slice A3 fl.length c3), fl)]) (L2 := []) H5b.out (by omega)).mono ?_
        rintro e w6 ⟨A6, c6, hc6, rfl, H6⟩
        obtain ⟨k0, k1, k2⟩ := Sts.box (L1 := [(.row (.slice A6 fl.length c6), fl)]) H6
        dsimp only at k0 k1 k2
        replace H6 := Lib.hid H6
        go_wp2_with fail
        refine (plainC (row_all (Sts.getRow (L1 := []) H6.out) (by omega)) hc6 (by omega)).mono ?_
        rintro e w7 ⟨A7, c7, rfl, hp7, hb7⟩
        have H7 := H6.out.step hb7
        replace H7 := Lib.hid H7
        replace hp7 := Lib.hid hp7
        clear hb7
        go_wp2_with fail
        refine (plainC (row_all (Sts.getRow (L1 := [(.row (.slice A6 fl.length c6), fl), (boxAt w5.heap.size, [⟨0, 0, 0⟩])]) H7.out) (by omega)) hc3 (by omega)).mono ?_
        rintro e w8 ⟨A8, c8, rfl, hp8, hb8⟩
        have H8 := H7.out.step hb8
        have hp9 := hp7.out.step hb8
        replace H8 := Lib.hid H8
        replace hp8 := Lib.hid hp8
        replace hp9 := Lib.hid hp9
        clear hb8
        go_wp2_with fail
        refine (sameC hp9.out hp8.out (by omega)).mono ?_
        rintro e w9 ⟨rfl, hb9⟩
        have H9 := H8.out.step hb9
        replace H9 := Lib.hid H9
        clear hb9
        go_wp2_with fail
        refine (known_walk _).mono ?_
        rintro e wk ⟨rfl, hb⟩
        have HZ := H9.out.below.trans (hb.mono H9.out.size)
        replace HZ := Lib.hid HZ
        clear hb
        go_wp2_with fail
        go_ret
        exact ⟨rfl, HZ.out⟩
      · have d1 : decide (mxp fl ≤ a) = false := decide_eq_false hma
        by_cases hp : 0 < mxp fl
        · have hpp := places_pos hp
          obtain ⟨_, q2, q3⟩ := pick_spec fl p hpp
          have hpure := fun k => above_pure fl (pickPlace fl p) k q2
          have hT : ∀ (W : World) (L1 L2 : List (Key × List S30)), Sts w W (L1 ++ (.set g, fl) :: L2) → Calls Try.prog 14 #[.pointer (some ⟨g, 0, none⟩), .int .i64 a, .int .i64 p] W fun e w' => e = .returned (.tuple #[.agg #[.int .i64 (fl.getD (pickPlace fl p) z30).f0, .int .i64 (fl.getD (pickPlace fl p) z30).f1, .int .i64 (fl.getD (pickPlace fl p) z30).f2], .bool true]) ∧ Sts w w' (L1 ++ (.set g, fl.eraseIdx (pickPlace fl p)) :: L2) := fun W L1 L2 h => takeS h (by omega) a p hpp (by omega)
          have hel : (fl.eraseIdx (pickPlace fl p)).length + 1 = fl.length := by rw [List.length_eraseIdx_of_lt q2]; omega
          generalize fl.eraseIdx (pickPlace fl p) = fe at *
          generalize hx : fl.getD (pickPlace fl p) z30 = x at *
          replace hpure := Lib.hid hpure
          replace hT := Lib.hid hT
          replace hx := Lib.hid hx
          have e7 : (x.f1 == mxp fl) = true := beq_iff_eq.mpr q3
          have e8 : (x.f1 != mxp fl) = false := by rw [bne_eq_false_iff_eq]; exact q3
          replace q3 := Lib.hid q3
          clear q2 hpp
          go_wp2_with fail
          refine (hT.out _ [(.row (.slice A3 fl.length c3), fl)] [] H4.out).mono ?_
          rintro e w5 ⟨rfl, H5⟩
          have H5b : Sts w _ [(boxAt w5.heap.size, [x]), (.row (.slice A3 fl.length c3), fl), (.set g, fe)] := H5.addBox x.f0 x.f1 x.f2
          replace H5b := Lib.hid H5b
          clear H5
          go_wp2_with fail
          refine (allS (L1 := [(boxAt w5.heap.size, [x]), (.row (.slice A3 fl.length c3), fl)]) (L2 := []) H5b.out (by omega)).mono ?_
          rintro e w6 ⟨A6, c6, hc6, rfl, H6⟩
          obtain ⟨k0, k1, k2⟩ := Sts.box (L1 := [(.row (.slice A6 fe.length c6), fe)]) H6
          generalize hbj : w5.heap.size = bj at *
          replace hbj := Lib.hid hbj
          replace H6 := Lib.hid H6
          have e9 : wrap64 ((fl.length : Int) - 1) = (fe.length : Int) := by rw [wrapIn (by omega)]; omega
          have e10 : ((fe.length : Int) != (fl.length : Int) - 1) = false := by rw [bne_eq_false_iff_eq]; omega
          have e11 : 1 ≤ fl.length := by omega
          have hfe : fe.length ≤ 60 := by omega
          replace hel := Lib.hid hel
          go_wp2_with fail
          go_loopw [14] (fun vi wr => AboveRel w g bj (.slice A3 fl.length c3) (.slice A6 fe.length c6) x fl fe vi wr) (fun vi _ => fl.length - (intOf vi).toNat)
          case atStart => exact ⟨0, Nat.zero_le _, rfl, fun m hm => absurd hm (Nat.not_lt_zero _), H6.out⟩
          case round =>
            obtain ⟨k, hk, rfl, hpre, HC⟩ := hrel
            replace HC := Lib.hid HC
            replace hpre := Lib.hid hpre
            have hkl : k < fl.length := by have := hel.out; omega
            obtain ⟨b1, hb1, hbl1, c0, c1, c2⟩ := RowIs.elem (Sts.getRow (L1 := [(.row (.slice A6 fe.length c6), fe), (boxAt bj, [x])]) HC.out) (by omega) k hkl
            subst hb1
            have hkb : k < 60 := by omega
            by_cases hlk : k < fe.length
            · obtain ⟨b2, hb2, hbl2, f0, f1, f2⟩ := RowIs.elem (Sts.getRow (L1 := []) HC.out) (by omega) k hlk
              subst hb2
              have hlk' : (k : Int) < (fe.length : Int) := by omega
              have hkl' : (k : Int) < (fl.length : Int) := by omega
              have dk : decide ((k : Int) < (fe.length : Int)) = true := decide_eq_true hlk'
              by_cases hxy : fe.getD k z30 = fl.getD k z30
              · have hpre2 : ∀ m, m < k + 1 → fe.getD m z30 = fl.getD m z30 := fun m hm => by
                  rcases Nat.lt_or_ge m k with h | h
                  · exact hpre.out m h
                  · have : m = k := by omega
                    rw [this]; exact hxy
                rw [hxy] at f0 f1 f2
                generalize fl.getD k z30 = y at *
                replace hpre2 := Lib.hid hpre2
                clear hxy
                go_wp2_with fail
                go_quiet (fail)
                go_wp2_with fail
                go_roundw
                case rel => exact ⟨k + 1, by omega, by go_num, hpre2.out, HC.out.step (by repeat (first | exact Below.refl _ _ | (with_reducible first | apply below_alloc | apply pw_below_drewN | apply below_drew1)))⟩
                case measure => simp [intOf]; omega
              · have hnb := neq_bool _ _ hxy
                have hend := hpure.out k hk hpre.out (fun _ => hxy)
                replace hend := Lib.hid hend
                generalize hy : fl.getD k z30 = y at *
                generalize fe.getD k z30 = z at *
                replace hy := Lib.hid hy
                clear hnb
                replace hxy := Lib.hid hxy
                go_wp2_with fail
                refine start_ (n := 15) (S := fun w' => (w'.cell? ⟨b2, k * 3, none⟩ = some (.int .i64 z.f0) ∧ w'.cell? ⟨b2, k * 3 + 1, none⟩ = some (.int .i64 z.f1) ∧ w'.cell? ⟨b2, k * 3 + 2, none⟩ = some (.int .i64 z.f2)) ∧ w'.cell? ⟨b1, k * 3, none⟩ = some (.int .i64 y.f0) ∧ w'.cell? ⟨b1, k * 3 + 1, none⟩ = some (.int .i64 y.f1) ∧ w'.cell? ⟨b1, k * 3 + 2, none⟩ = some (.int .i64 y.f2)) (ds := []) #[false, false, false, false, false, false, false, false, false, false, false, false, false, false, false] (by kernel_rfl) rfl rfl ⟨⟨f0, f1, f2⟩, c0, c1, c2⟩ (fun hHeld => ?_)
                refine pure_ (i := 0) (N := some 94) (v := ?_) (a' := ?_) #[true, false, false, false, false, false, false, false, false, false, false, false, false, false, false] rfl rfl (by kernel_rfl) (fun _ _ _ h => h) (Or.inl ⟨by rfl, ?_⟩) ?_ ?_
                rotate_left
                · intro w'
                  go_simp
                  first | with_reducible rfl | rfl
                rotate_left
                · simp only [Act.put, List.setIfInBounds_toArray, List.set_cons_zero, List.set_cons_succ, i64_w, i32_w]
                  rfl
                refine pure_ (i := 1) (N := some 95) (v := ?_) (a' := ?_) #[true, true, false, false, false, false, false, false, false, false, false, false, false, false, false] rfl rfl (by kernel_rfl) (fun _ _ _ h => h) (Or.inl ⟨by rfl, ?_⟩) ?_ ?_
                rotate_left
                · intro w'
                  go_simp
                  first | with_reducible rfl | rfl
                rotate_left
                · simp only [Act.put, List.setIfInBounds_toArray, List.set_cons_zero, List.set_cons_succ, i64_w, i32_w]
                  rfl
                refine pure_ (i := 2) (N := some 96) (v := ?_) (a' := ?_) #[true, true, true, false, false, false, false, false, false, false, false, false, false, false, false] rfl rfl (by kernel_rfl) (fun _ _ _ h => h) (Or.inl ⟨by rfl, ?_⟩) ?_ ?_
                rotate_left
                · intro w'
                  go_simp
                  first | with_reducible rfl | rfl
                rotate_left
                · simp only [Act.put, List.setIfInBounds_toArray, List.set_cons_zero, List.set_cons_succ, i64_w, i32_w]
                  rfl
                refine pure_ (i := 3) (N := some 97) (v := ?_) (a' := ?_) #[true, true, true, true, false, false, false, false, false, false, false, false, false, false, false] rfl rfl (by kernel_rfl) (fun _ _ _ h => h) (Or.inl ⟨by rfl, ?_⟩) ?_ ?_
                rotate_left
                · intro w'
                  go_simp
                  first | with_reducible rfl | rfl
                rotate_left
                · simp only [Act.put, List.setIfInBounds_toArray, List.set_cons_zero, List.set_cons_succ, i64_w, i32_w]
                  rfl
                refine pure_ (i := 4) (N := some 98) (v := ?_) (a' := ?_) #[true, true, true, true, true, false, false, false, false, false, false, false, false, false, false] rfl rfl (by kernel_rfl) (fun _ _ _ h => h) (Or.inl ⟨by rfl, ?_⟩) ?_ ?_
                rotate_left
                · intro w'
                  go_simp
                  first | with_reducible rfl | rfl
                rotate_left
                · simp only [Act.put, List.setIfInBounds_toArray, List.set_cons_zero, List.set_cons_succ, i64_w, i32_w]
                  rfl
                refine pure_ (i := 5) (N := some 99) (v := ?_) (a' := ?_) #[true, true, true, true, true, true, false, false, false, false, false, false, false, false, false] rfl rfl (by kernel_rfl) (fun _ _ _ h => h) (Or.inl ⟨by rfl, ?_⟩) ?_ ?_
                rotate_left
                · intro w'
                  go_simp
                  first | with_reducible rfl | rfl
                rotate_left
                · simp only [Act.put, List.setIfInBounds_toArray, List.set_cons_zero, List.set_cons_succ, i64_w, i32_w]
                  rfl
                refine pure_ (i := 6) (N := some 100) (v := ?_) (a' := ?_) #[true, true, true, true, true, true, true, false, false, false, false, false, false, false, false] rfl rfl (by kernel_rfl) (fun _ _ _ h => h) (Or.inl ⟨by rfl, ?_⟩) ?_ ?_
                rotate_left
                · intro w'
                  go_simp
                  first | with_reducible rfl | rfl
                rotate_left
                · simp only [Act.put, List.setIfInBounds_toArray, List.set_cons_zero, List.set_cons_succ, i64_w, i32_w]
                  rfl
                refine pure_ (i := 7) (N := some 101) (v := ?_) (a' := ?_) #[true, true, true, true, true, true, true, true, false, false, false, false, false, false, false] rfl rfl (by kernel_rfl) (fun _ _ _ h => h) (Or.inl ⟨by rfl, ?_⟩) ?_ ?_
                rotate_left
                · intro w'
                  go_simp
                  first | with_reducible rfl | rfl
                rotate_left
                · simp only [Act.put, List.setIfInBounds_toArray, List.set_cons_zero, List.set_cons_succ, i64_w, i32_w]
                  rfl
                refine take_ (i := 8) (N := some 102) (v := ?_) (a' := ?_) #[true, true, true, true, true, true, true, true, true, false, false, false, false, false, false] rfl rfl (by kernel_rfl) (fun _ _ _ h => h) (Or.inl ⟨by rfl, ?_⟩) hHeld ?_ ?_
                rotate_left
                · rintro w' ⟨⟨s0, s1, s2⟩, s3, s4, s5⟩
                  go_simp
                  first | with_reducible rfl | rfl
                rotate_left
                · simp only [Act.put, List.setIfInBounds_toArray, List.set_cons_zero, List.set_cons_succ, i64_w, i32_w]
                  rfl
                refine pure_ (i := 9) (N := some 103) (v := ?_) (a' := ?_) #[true, true, true, true, true, true, true, true, true, true, false, false, false, false, false] rfl rfl (by kernel_rfl) (fun _ _ _ h => h) (Or.inl ⟨by rfl, ?_⟩) ?_ ?_
                rotate_left
                · intro w'
                  go_simp
                  first | with_reducible rfl | rfl
                rotate_left
                · simp only [Act.put, List.setIfInBounds_toArray, List.set_cons_zero, List.set_cons_succ, i64_w, i32_w]
                  rfl
                refine pure_ (i := 10) (N := some 104) (v := ?_) (a' := ?_) #[true, true, true, true, true, true, true, true, true, true, true, false, false, false, false] rfl rfl (by kernel_rfl) (fun _ _ _ h => h) (Or.inl ⟨by rfl, ?_⟩) ?_ ?_
                rotate_left
                · intro w'
                  go_simp
                  first | with_reducible rfl | rfl
                rotate_left
                · simp only [Act.put, List.setIfInBounds_toArray, List.set_cons_zero, List.set_cons_succ, i64_w, i32_w]
                  rfl
                refine pure_ (i := 11) (N := some 105) (v := ?_) (a' := ?_) #[true, true, true, true, true, true, true, true, true, true, true, true, false, false, false] rfl rfl (by kernel_rfl) (fun _ _ _ h => h) (Or.inl ⟨by rfl, ?_⟩) ?_ ?_
                rotate_left
                · intro w'
                  go_simp
                  first | with_reducible rfl | rfl
                rotate_left
                · simp only [Act.put, List.setIfInBounds_toArray, List.set_cons_zero, List.set_cons_succ, i64_w, i32_w]
                  rfl
                refine take_ (i := 12) (N := some 106) (v := ?_) (a' := ?_) #[true, true, true, true, true, true, true, true, true, true, true, true, true, false, false] rfl rfl (by kernel_rfl) (fun _ _ _ h => h) (Or.inl ⟨by rfl, ?_⟩) hHeld ?_ ?_
                rotate_left
                · rintro w' ⟨⟨s0, s1, s2⟩, s3, s4, s5⟩
                  go_simp
                  first | with_reducible rfl | rfl
                rotate_left
                · simp only [Act.put, List.setIfInBounds_toArray, List.set_cons_zero, List.set_cons_succ, i64_w, i32_w]
                  rfl
                refine pure_ (i := 13) (N := some 107) (v := (.bool false)) (a' := ?_) #[true, true, true, true, true, true, true, true, true, true, true, true, true, true, false] rfl rfl (by kernel_rfl) (fun _ _ _ h => h) (Or.inl ⟨by rfl, ?_⟩) ?_ ?_
                · intro w'
                  go_simp
                  exact neq_imp _ _ hxy.out
                rotate_left
                · simp only [Act.put, List.setIfInBounds_toArray, List.set_cons_zero, List.set_cons_succ, i64_w, i32_w]
                  rfl
                refine pure_ (i := 14) (N := some 108) (v := ?_) (a' := ?_) #[true, true, true, true, true, true, true, true, true, true, true, true, true, true, true] rfl rfl (by kernel_rfl) (fun _ _ _ h => h) (Or.inl ⟨by rfl, ?_⟩) ?_ ?_
                rotate_left
                · intro w'
                  go_simp
                  first | with_reducible rfl | rfl
                rotate_left
                · simp only [Act.put, List.setIfInBounds_toArray, List.set_cons_zero, List.set_cons_succ, i64_w, i32_w]
                  rfl
                refine done_ (by kernel_rfl) ?_
                go_wp2_with fail
                obtain rfl : x = y := hend.out.1.symm
                have HD := HC.out.step (Below.refl wr.heap.size wr).drew
                obtain ⟨d0, d1, d2⟩ := Sts.box (L1 := [(.row (.slice (some ⟨b2, 0, none⟩) fe.length c6), fe)]) HD
                replace HD := Lib.hid HD
                have hc6n : ¬ c6 = k := by omega
                have n8 : fe.length - k ≤ c6 - k := by omega
                replace n8 := Lib.hid n8
                have hki : (k : Int) ≤ (fe.length : Int) := by omega
                have n6 : fe.length ≤ 1000000 ∧ fl.length ≤ 1000000 ∧ fe.length - k ≤ c6 - k ∧ fl.length - (k + 1) ≤ c3 - (k + 1) ∧ (fe.drop k).length ≤ 100000 := ⟨by omega, by omega, by omega, by omega, by rw [List.length_drop]; omega⟩
                replace n6 := Lib.hid n6
                have n4 : (fe.drop k).length = fl.length - (k + 1) := by rw [hend.out.2, List.length_drop]
                replace n4 := Lib.hid n4
                have hkb2 : k < 10000 := by omega
                rcases Nat.eq_or_lt_of_le (show k + 1 ≤ c3 by omega) with hcc | hcc
                · subst hcc
                  have n5 : fl.length - (k + 1) ≤ 0 := by omega
                  have n7 : k + 1 = fl.length := by omega
                  replace n7 := Lib.hid n7
                  replace hc3 := Lib.hid hc3
                  replace n5 := Lib.hid n5
                  obtain ⟨x1, x2, x3, x4, x5⟩ := idx_facts k fl.length hkl hkb2
                  refine start_ (n := 22) (S := fun w' => (w'.cell? ⟨b1, k * 3, none⟩ = some (.int .i64 x.f0) ∧ w'.cell? ⟨b1, k * 3 + 1, none⟩ = some (.int .i64 x.f1) ∧ w'.cell? ⟨b1, k * 3 + 2, none⟩ = some (.int .i64 x.f2)) ∧ w'.cell? ⟨bj, 0, none⟩ = some (.int .i64 x.f0) ∧ w'.cell? ⟨bj, 1, none⟩ = some (.int .i64 x.f1) ∧ w'.cell? ⟨bj, 2, none⟩ = some (.int .i64 x.f2)) (ds := [10, 15, 16, 19]) #[false, false, false, false, false, false, false, false, false, false, false, false, false, false, false, false, false, false, false, false, false, false] (by kernel_rfl) rfl rfl ⟨⟨c0, c1, c2⟩, d0, d1, d2⟩ (fun hHeld => ?_)
                  refine pure_ (i := 0) (N := some 111) (v := ?_) (a' := ?_) #[true, false, false, false, false, false, false, false, false, false, false, false, false, false, false, false, false, false, false, false, false, false] rfl rfl (by kernel_rfl) (fun _ _ _ h => h) (Or.inl ⟨by rfl, ?_⟩) ?_ ?_
                  rotate_left
                  · intro w'
                    go_simp
                    first | with_reducible rfl | rfl
                  rotate_left
                  · simp only [Act.put, List.setIfInBounds_toArray, List.set_cons_zero, List.set_cons_succ, i64_w, i32_w]
                    rfl
                  refine pure_ (i := 1) (N := some 112) (v := ?_) (a' := ?_) #[true, true, false, false, false, false, false, false, false, false, false, false, false, false, false, false, false, false, false, false, false, false] rfl rfl (by kernel_rfl) (fun _ _ _ h => h) (Or.inl ⟨by rfl, ?_⟩) ?_ ?_
                  rotate_left
                  · intro w'
                    go_simp
                    first | with_reducible rfl | rfl
                  rotate_left
                  · simp only [Act.put, List.setIfInBounds_toArray, List.set_cons_zero, List.set_cons_succ, i64_w, i32_w]
                    rfl
                  refine pure_ (i := 2) (N := some 113) (v := ?_) (a' := ?_) #[true, true, true, false, false, false, false, false, false, false, false, false, false, false, false, false, false, false, false, false, false, false] rfl rfl (by kernel_rfl) (fun _ _ _ h => h) (Or.inl ⟨by rfl, ?_⟩) ?_ ?_
                  rotate_left
                  · intro w'
                    go_simp
                    first | with_reducible rfl | rfl
                  rotate_left
                  · simp only [Act.put, List.setIfInBounds_toArray, List.set_cons_zero, List.set_cons_succ, i64_w, i32_w]
                    rfl
                  refine take_ (i := 3) (N := some 114) (v := ?_) (a' := ?_) #[true, true, true, true, false, false, false, false, false, false, false, false, false, false, false, false, false, false, false, false, false, false] rfl rfl (by kernel_rfl) (fun _ _ _ h => h) (Or.inl ⟨by rfl, ?_⟩) hHeld ?_ ?_
                  rotate_left
                  · rintro w' ⟨⟨s0, s1, s2⟩, s3, s4, s5⟩
                    go_simp
                    first | with_reducible rfl | rfl
                  rotate_left
                  · simp only [Act.put, List.setIfInBounds_toArray, List.set_cons_zero, List.set_cons_succ, i64_w, i32_w]
                    rfl
                  refine take_ (i := 4) (N := some 115) (v := ?_) (a' := ?_) #[true, true, true, true, true, false, false, false, false, false, false, false, false, false, false, false, false, false, false, false, false, false] rfl rfl (by kernel_rfl) (fun _ _ _ h => h) (Or.inl ⟨by rfl, ?_⟩) hHeld ?_ ?_
                  rotate_left
                  · rintro w' ⟨⟨s0, s1, s2⟩, s3, s4, s5⟩
                    go_simp
                    first | with_reducible rfl | rfl
                  rotate_left
                  · simp only [Act.put, List.setIfInBounds_toArray, List.set_cons_zero, List.set_cons_succ, i64_w, i32_w]
                    rfl
                  refine pure_ (i := 5) (N := some 116) (v := ?_) (a' := ?_) #[true, true, true, true, true, true, false, false, false, false, false, false, false, false, false, false, false, false, false, false, false, false] rfl rfl (by kernel_rfl) (fun _ _ _ h => h) (Or.inl ⟨by rfl, ?_⟩) ?_ ?_
                  rotate_left
                  · intro w'
                    go_simp
                    first | with_reducible rfl | rfl
                  rotate_left
                  · simp only [Act.put, List.setIfInBounds_toArray, List.set_cons_zero, List.set_cons_succ, i64_w, i32_w]
                    rfl
                  refine pure_ (i := 6) (N := some 117) (v := ?_) (a' := ?_) #[true, true, true, true, true, true, true, false, false, false, false, false, false, false, false, false, false, false, false, false, false, false] rfl rfl (by kernel_rfl) (fun _ _ _ h => h) (Or.inl ⟨by rfl, ?_⟩) ?_ ?_
                  rotate_left
                  · intro w'
                    go_simp
                    first | with_reducible rfl | rfl
                  rotate_left
                  · simp only [Act.put, List.setIfInBounds_toArray, List.set_cons_zero, List.set_cons_succ, i64_w, i32_w]
                    rfl
                  refine pure_ (i := 7) (N := some 118) (v := ?_) (a' := ?_) #[true, true, true, true, true, true, true, true, false, false, false, false, false, false, false, false, false, false, false, false, false, false] rfl rfl (by kernel_rfl) (fun _ _ _ h => h) (Or.inl ⟨by rfl, ?_⟩) ?_ ?_
                  rotate_left
                  · intro w'
                    go_simp
                    first | with_reducible rfl | rfl
                  rotate_left
                  · simp only [Act.put, List.setIfInBounds_toArray, List.set_cons_zero, List.set_cons_succ, i64_w, i32_w]
                    rfl
                  refine pure_ (i := 8) (N := some 119) (v := ?_) (a' := ?_) #[true, true, true, true, true, true, true, true, true, false, false, false, false, false, false, false, false, false, false, false, false, false] rfl rfl (by kernel_rfl) (fun _ _ _ h => h) (Or.inl ⟨by rfl, ?_⟩) ?_ ?_
                  rotate_left
                  · intro w'
                    go_simp
                    first | with_reducible rfl | rfl
                  rotate_left
                  · simp only [Act.put, List.setIfInBounds_toArray, List.set_cons_zero, List.set_cons_succ, i64_w, i32_w]
                    rfl
                  refine pure_ (i := 9) (N := some 120) (v := ?_) (a' := ?_) #[true, true, true, true, true, true, true, true, true, true, false, false, false, false, false, false, false, false, false, false, false, false] rfl rfl (by kernel_rfl) (fun _ _ _ h => h) (Or.inl ⟨by rfl, ?_⟩) ?_ ?_
                  rotate_left
                  · intro w'
                    go_simp
                    first | with_reducible rfl | rfl
                  rotate_left
                  · simp only [Act.put, List.setIfInBounds_toArray, List.set_cons_zero, List.set_cons_succ, i64_w, i32_w]
                    rfl
                  refine pure_ (i := 11) (N := some 122) (v := ?_) (a' := ?_) #[true, true, true, true, true, true, true, true, true, true, false, true, false, false, false, false, false, false, false, false, false, false] rfl rfl (by kernel_rfl) (fun _ _ _ h => h) (Or.inl ⟨by rfl, ?_⟩) ?_ ?_
                  rotate_left
                  · intro w'
                    go_simp
                    first | with_reducible rfl | rfl
                  rotate_left
                  · simp only [Act.put, List.setIfInBounds_toArray, List.set_cons_zero, List.set_cons_succ, i64_w, i32_w]
                    rfl
                  refine pure_ (i := 12) (N := some 123) (v := ?_) (a' := ?_) #[true, true, true, true, true, true, true, true, true, true, false, true, true, false, false, false, false, false, false, false, false, false] rfl rfl (by kernel_rfl) (fun _ _ _ h => h) (Or.inl ⟨by rfl, ?_⟩) ?_ ?_
                  rotate_left
                  · intro w'
                    go_simp
                    first | with_reducible rfl | rfl
                  rotate_left
                  · simp only [Act.put, List.setIfInBounds_toArray, List.set_cons_zero, List.set_cons_succ, i64_w, i32_w]
                    rfl
                  refine pure_ (i := 13) (N := some 124) (v := ?_) (a' := ?_) #[true, true, true, true, true, true, true, true, true, true, false, true, true, true, false, false, false, false, false, false, false, false] rfl rfl (by kernel_rfl) (fun _ _ _ h => h) (Or.inl ⟨by rfl, ?_⟩) ?_ ?_
                  rotate_left
                  · intro w'
                    go_simp
                    first | with_reducible rfl | rfl
                  rotate_left
                  · simp only [Act.put, List.setIfInBounds_toArray, List.set_cons_zero, List.set_cons_succ, i64_w, i32_w]
                    rfl
                  refine pure_ (i := 14) (N := some 125) (v := ?_) (a' := ?_) #[true, true, true, true, true, true, true, true, true, true, false, true, true, true, true, false, false, false, false, false, false, false] rfl rfl (by kernel_rfl) (fun _ _ _ h => h) (Or.inl ⟨by rfl, ?_⟩) ?_ ?_
                  rotate_left
                  · intro w'
                    go_simp
                    first | with_reducible rfl | rfl
                  rotate_left
                  · simp only [Act.put, List.setIfInBounds_toArray, List.set_cons_zero, List.set_cons_succ, i64_w, i32_w]
                    rfl
                  refine last_ (i := 10) (N := some 121) #[true, true, true, true, true, true, true, true, true, true, true, true, true, true, true, false, false, false, false, false, false, false] rfl rfl (by kernel_rfl) (by decide) (fun K hK => ?_)
                  refine goes_ Try.func18 (by kernel_rfl) rfl #[.slice (some ⟨b2, k * 3, none⟩) (fe.length - k) (c6 - k)] (by rfl) rfl rfl (by (try simp only [List.map_toArray, List.map_cons, List.map_nil]); first | done | rfl) ?_
                  refine (plainN (l := fe.drop k) List.length_drop (rowAt (Sts.getRow (L1 := []) (HD.out.step (Below.refl _ _).drew)) hk n6.out.1 (.inr (congrArg some (add_plain b2 (k * 3)).symm))) n8.out n6.out.2.2.2.2).mono ?_
                  rintro e w7 ⟨A7, c7, rfl, hp7, hb7⟩
                  refine ⟨_, rfl, ?_⟩
                  have H7 := (HD.out.step (Below.refl _ _).drew).step hb7
                  replace H7 := Lib.hid H7
                  replace hp7 := Lib.hid hp7
                  clear hb7
                  refine hK.out _ _ ?_
                  clear hK K
                  refine norm_ (a' := ?_) ?_ ?_
                  rotate_left
                  · show Act.put _ (some 121) _ = _
                    simp only [Act.put, List.setIfInBounds_toArray, List.set_cons_zero, List.set_cons_succ, i64_w, i32_w]
                    rfl
                  refine last_ (i := 15) (N := some 126) #[true, true, true, true, true, true, true, true, true, true, true, true, true, true, true, true, false, false, false, false, false, false] rfl rfl (by kernel_rfl) (by decide) (fun K hK => ?_)
                  refine goes_ Try.func18 (by kernel_rfl) rfl #[.slice (some ⟨b1, 0, none⟩) (fl.length - (k + 1)) 0] (by rfl) rfl rfl (by (try simp only [List.map_toArray, List.map_cons, List.map_nil]); first | done | rfl) ?_
                  refine (plainN (l := fe.drop k) n4.out (by rw [hend.out.2]; exact rowAt (Sts.getRow (L1 := [(.row (.slice (some ⟨b2, 0, none⟩) fe.length c6), fe), (boxAt bj, [x])]) H7.out) hkl n6.out.2.1 (.inl n7.out)) n5.out n6.out.2.2.2.2).mono ?_
                  rintro e w8 ⟨A8, c8, rfl, hp8, hb8⟩
                  refine ⟨_, rfl, ?_⟩
                  have H8 := H7.out.step hb8
                  have hp9 := hp7.out.step hb8
                  replace H8 := Lib.hid H8
                  replace hp8 := Lib.hid hp8
                  replace hp9 := Lib.hid hp9
                  clear hb8
                  refine hK.out _ _ ?_
                  clear hK K
                  refine norm_ (a' := ?_) ?_ ?_
                  rotate_left
                  · show Act.put _ (some 126) _ = _
                    simp only [Act.put, List.setIfInBounds_toArray, List.set_cons_zero, List.set_cons_succ, i64_w, i32_w]
                    rfl
                  refine last_ (i := 16) (N := some 127) #[true, true, true, true, true, true, true, true, true, true, true, true, true, true, true, true, true, false, false, false, false, false] rfl rfl (by kernel_rfl) (by decide) (fun K hK => ?_)
                  refine goes_ Try.func17 (by kernel_rfl) rfl #[.slice A7 (fe.drop k).length c7, .slice A8 (fe.drop k).length c8] (by rfl) rfl rfl (by (try simp only [List.map_toArray, List.map_cons, List.map_nil]); first | done | rfl) ?_
                  refine (sameC hp9.out hp8.out n6.out.2.2.2.2).mono ?_
                  rintro e w9 ⟨rfl, hb9⟩
                  refine ⟨_, rfl, ?_⟩
                  have H9 := H8.out.step hb9
                  replace H9 := Lib.hid H9
                  clear hb9
                  refine hK.out _ _ ?_
                  clear hK K
                  refine norm_ (a' := ?_) ?_ ?_
                  rotate_left
                  · show Act.put _ (some 127) _ = _
                    simp only [Act.put, List.setIfInBounds_toArray, List.set_cons_zero, List.set_cons_succ, i64_w, i32_w]
                    rfl
                  refine pure_ (i := 17) (N := some 128) (v := ?_) (a' := ?_) #[true, true, true, true, true, true, true, true, true, true, true, true, true, true, true, true, true, true, false, false, false, false] rfl rfl (by kernel_rfl) (fun _ _ _ h => h) (Or.inl ⟨by rfl, ?_⟩) ?_ ?_
                  rotate_left
                  · intro w'
                    go_simp
                    first | with_reducible rfl | rfl
                  rotate_left
                  · simp only [Act.put, List.setIfInBounds_toArray, List.set_cons_zero, List.set_cons_succ, i64_w, i32_w]
                    rfl
                  refine pure_ (i := 18) (N := some 129) (v := ?_) (a' := ?_) #[true, true, true, true, true, true, true, true, true, true, true, true, true, true, true, true, true, true, true, false, false, false] rfl rfl (by kernel_rfl) (fun _ _ _ h => h) (Or.inl ⟨by rfl, ?_⟩) ?_ ?_
                  rotate_left
                  · intro w'
                    go_simp
                    first | with_reducible rfl | rfl
                  rotate_left
                  · simp only [Act.put, List.setIfInBounds_toArray, List.set_cons_zero, List.set_cons_succ, i64_w, i32_w]
                    rfl
                  refine last_ (i := 19) (N := some 130) #[true, true, true, true, true, true, true, true, true, true, true, true, true, true, true, true, true, true, true, true, false, false] rfl rfl (by kernel_rfl) (by decide) (fun K hK => ?_)
                  refine goes_ Try.func22 (by kernel_rfl) rfl #[] (by rfl) rfl rfl (by (try simp only [List.map_toArray, List.map_cons, List.map_nil]); first | done | rfl) ?_
                  refine (known_walk _).mono ?_
                  rintro e w10 ⟨rfl, hb10⟩
                  refine ⟨_, rfl, ?_⟩
                  have HZ := H9.out.below.trans (hb10.mono H9.out.size)
                  replace HZ := Lib.hid HZ
                  clear hb10
                  refine hK.out _ _ ?_
                  clear hK K
                  refine norm_ (a' := ?_) ?_ ?_
                  rotate_left
                  · show Act.put _ (some 130) _ = _
                    simp only [Act.put, List.setIfInBounds_toArray, List.set_cons_zero, List.set_cons_succ, i64_w, i32_w]
                    rfl
                  refine pure_ (i := 20) (N := some 131) (v := ?_) (a' := ?_) #[true, true, true, true, true, true, true, true, true, true, true, true, true, true, true, true, true, true, true, true, true, false] rfl rfl (by kernel_rfl) (fun _ _ _ h => h) (Or.inl ⟨by rfl, ?_⟩) ?_ ?_
                  rotate_left
                  · intro w'
                    go_simp
                    first | with_reducible rfl | rfl
                  rotate_left
                  · simp only [Act.put, List.setIfInBounds_toArray, List.set_cons_zero, List.set_cons_succ, i64_w, i32_w]
                    rfl
                  refine pure_ (i := 21) (N := some 6) (v := ?_) (a' := ?_) #[true, true, true, true, true, true, true, true, true, true, true, true, true, true, true, true, true, true, true, true, true, true] rfl rfl (by kernel_rfl) (fun _ _ _ h => h) (Or.inl ⟨by rfl, ?_⟩) ?_ ?_
                  rotate_left
                  · intro w'
                    go_simp
                    first | with_reducible rfl | rfl
                  rotate_left
                  · simp only [Act.put, List.setIfInBounds_toArray, List.set_cons_zero, List.set_cons_succ, i64_w, i32_w]
                    rfl
                  refine done_ (by kernel_rfl) ?_
                  go_wp2_with fail
                  go_ret
                  exact ⟨rfl, HZ.out⟩
                · have hcn : ¬ c3 = k + 1 := Nat.ne_of_gt hcc
                  have n5 : fl.length - (k + 1) ≤ c3 - (k + 1) := by omega
                  replace n5 := Lib.hid n5
                  obtain ⟨x1, x2, x3, x4, x5⟩ := idx_facts k fl.length hkl hkb2
                  refine start_ (n := 22) (S := fun w' => (w'.cell? ⟨b1, k * 3, none⟩ = some (.int .i64 x.f0) ∧ w'.cell? ⟨b1, k * 3 + 1, none⟩ = some (.int .i64 x.f1) ∧ w'.cell? ⟨b1, k * 3 + 2, none⟩ = some (.int .i64 x.f2)) ∧ w'.cell? ⟨bj, 0, none⟩ = some (.int .i64 x.f0) ∧ w'.cell? ⟨bj, 1, none⟩ = some (.int .i64 x.f1) ∧ w'.cell? ⟨bj, 2, none⟩ = some (.int .i64 x.f2)) (ds := [10, 15, 16, 19]) #[false, false, false, false, false, false, false, false, false, false, false, false, false, false, false, false, false, false, false, false, false, false] (by kernel_rfl) rfl rfl ⟨⟨c0, c1, c2⟩, d0, d1, d2⟩ (fun hHeld => ?_)
                  refine pure_ (i := 0) (N := some 111) (v := ?_) (a' := ?_) #[true, false, false, false, false, false, false, false, false, false, false, false, false, false, false, false, false, false, false, false, false, false] rfl rfl (by kernel_rfl) (fun _ _ _ h => h) (Or.inl ⟨by rfl, ?_⟩) ?_ ?_
                  rotate_left
                  · intro w'
                    go_simp
                    first | with_reducible rfl | rfl
                  rotate_left
                  · simp only [Act.put, List.setIfInBounds_toArray, List.set_cons_zero, List.set_cons_succ, i64_w, i32_w]
                    rfl
                  refine pure_ (i := 1) (N := some 112) (v := ?_) (a' := ?_) #[true, true, false, false, false, false, false, false, false, false, false, false, false, false, false, false, false, false, false, false, false, false] rfl rfl (by kernel_rfl) (fun _ _ _ h => h) (Or.inl ⟨by rfl, ?_⟩) ?_ ?_
                  rotate_left
                  · intro w'
                    go_simp
                    first | with_reducible rfl | rfl
                  rotate_left
                  · simp only [Act.put, List.setIfInBounds_toArray, List.set_cons_zero, List.set_cons_succ, i64_w, i32_w]
                    rfl
                  refine pure_ (i := 2) (N := some 113) (v := ?_) (a' := ?_) #[true, true, true, false, false, false, false, false, false, false, false, false, false, false, false, false, false, false, false, false, false, false] rfl rfl (by kernel_rfl) (fun _ _ _ h => h) (Or.inl ⟨by rfl, ?_⟩) ?_ ?_
                  rotate_left
                  · intro w'
                    go_simp
                    first | with_reducible rfl | rfl
                  rotate_left
                  · simp only [Act.put, List.setIfInBounds_toArray, List.set_cons_zero, List.set_cons_succ, i64_w, i32_w]
                    rfl
                  refine take_ (i := 3) (N := some 114) (v := ?_) (a' := ?_) #[true, true, true, true, false, false, false, false, false, false, false, false, false, false, false, false, false, false, false, false, false, false] rfl rfl (by kernel_rfl) (fun _ _ _ h => h) (Or.inl ⟨by rfl, ?_⟩) hHeld ?_ ?_
                  rotate_left
                  · rintro w' ⟨⟨s0, s1, s2⟩, s3, s4, s5⟩
                    go_simp
                    first | with_reducible rfl | rfl
                  rotate_left
                  · simp only [Act.put, List.setIfInBounds_toArray, List.set_cons_zero, List.set_cons_succ, i64_w, i32_w]
                    rfl
                  refine take_ (i := 4) (N := some 115) (v := ?_) (a' := ?_) #[true, true, true, true, true, false, false, false, false, false, false, false, false, false, false, false, false, false, false, false, false, false] rfl rfl (by kernel_rfl) (fun _ _ _ h => h) (Or.inl ⟨by rfl, ?_⟩) hHeld ?_ ?_
                  rotate_left
                  · rintro w' ⟨⟨s0, s1, s2⟩, s3, s4, s5⟩
                    go_simp
                    first | with_reducible rfl | rfl
                  rotate_left
                  · simp only [Act.put, List.setIfInBounds_toArray, List.set_cons_zero, List.set_cons_succ, i64_w, i32_w]
                    rfl
                  refine pure_ (i := 5) (N := some 116) (v := ?_) (a' := ?_) #[true, true, true, true, true, true, false, false, false, false, false, false, false, false, false, false, false, false, false, false, false, false] rfl rfl (by kernel_rfl) (fun _ _ _ h => h) (Or.inl ⟨by rfl, ?_⟩) ?_ ?_
                  rotate_left
                  · intro w'
                    go_simp
                    first | with_reducible rfl | rfl
                  rotate_left
                  · simp only [Act.put, List.setIfInBounds_toArray, List.set_cons_zero, List.set_cons_succ, i64_w, i32_w]
                    rfl
                  refine pure_ (i := 6) (N := some 117) (v := ?_) (a' := ?_) #[true, true, true, true, true, true, true, false, false, false, false, false, false, false, false, false, false, false, false, false, false, false] rfl rfl (by kernel_rfl) (fun _ _ _ h => h) (Or.inl ⟨by rfl, ?_⟩) ?_ ?_
                  rotate_left
                  · intro w'
                    go_simp
                    first | with_reducible rfl | rfl
                  rotate_left
                  · simp only [Act.put, List.setIfInBounds_toArray, List.set_cons_zero, List.set_cons_succ, i64_w, i32_w]
                    rfl
                  refine pure_ (i := 7) (N := some 118) (v := ?_) (a' := ?_) #[true, true, true, true, true, true, true, true, false, false, false, false, false, false, false, false, false, false, false, false, false, false] rfl rfl (by kernel_rfl) (fun _ _ _ h => h) (Or.inl ⟨by rfl, ?_⟩) ?_ ?_
                  rotate_left
                  · intro w'
                    go_simp
                    first | with_reducible rfl | rfl
                  rotate_left
                  · simp only [Act.put, List.setIfInBounds_toArray, List.set_cons_zero, List.set_cons_succ, i64_w, i32_w]
                    rfl
                  refine pure_ (i := 8) (N := some 119) (v := ?_) (a' := ?_) #[true, true, true, true, true, true, true, true, true, false, false, false, false, false, false, false, false, false, false, false, false, false] rfl rfl (by kernel_rfl) (fun _ _ _ h => h) (Or.inl ⟨by rfl, ?_⟩) ?_ ?_
                  rotate_left
                  · intro w'
                    go_simp
                    first | with_reducible rfl | rfl
                  rotate_left
                  · simp only [Act.put, List.setIfInBounds_toArray, List.set_cons_zero, List.set_cons_succ, i64_w, i32_w]
                    rfl
                  refine pure_ (i := 9) (N := some 120) (v := ?_) (a' := ?_) #[true, true, true, true, true, true, true, true, true, true, false, false, false, false, false, false, false, false, false, false, false, false] rfl rfl (by kernel_rfl) (fun _ _ _ h => h) (Or.inl ⟨by rfl, ?_⟩) ?_ ?_
                  rotate_left
                  · intro w'
                    go_simp
                    first | with_reducible rfl | rfl
                  rotate_left
                  · simp only [Act.put, List.setIfInBounds_toArray, List.set_cons_zero, List.set_cons_succ, i64_w, i32_w]
                    rfl
                  refine pure_ (i := 11) (N := some 122) (v := ?_) (a' := ?_) #[true, true, true, true, true, true, true, true, true, true, false, true, false, false, false, false, false, false, false, false, false, false] rfl rfl (by kernel_rfl) (fun _ _ _ h => h) (Or.inl ⟨by rfl, ?_⟩) ?_ ?_
                  rotate_left
                  · intro w'
                    go_simp
                    first | with_reducible rfl | rfl
                  rotate_left
                  · simp only [Act.put, List.setIfInBounds_toArray, List.set_cons_zero, List.set_cons_succ, i64_w, i32_w]
                    rfl
                  refine pure_ (i := 12) (N := some 123) (v := ?_) (a' := ?_) #[true, true, true, true, true, true, true, true, true, true, false, true, true, false, false, false, false, false, false, false, false, false] rfl rfl (by kernel_rfl) (fun _ _ _ h => h) (Or.inl ⟨by rfl, ?_⟩) ?_ ?_
                  rotate_left
                  · intro w'
                    go_simp
                    first | with_reducible rfl | rfl
                  rotate_left
                  · simp only [Act.put, List.setIfInBounds_toArray, List.set_cons_zero, List.set_cons_succ, i64_w, i32_w]
                    rfl
                  refine pure_ (i := 13) (N := some 124) (v := ?_) (a' := ?_) #[true, true, true, true, true, true, true, true, true, true, false, true, true, true, false, false, false, false, false, false, false, false] rfl rfl (by kernel_rfl) (fun _ _ _ h => h) (Or.inl ⟨by rfl, ?_⟩) ?_ ?_
                  rotate_left
                  · intro w'
                    go_simp
                    first | with_reducible rfl | rfl
                  rotate_left
                  · simp only [Act.put, List.setIfInBounds_toArray, List.set_cons_zero, List.set_cons_succ, i64_w, i32_w]
                    rfl
                  refine pure_ (i := 14) (N := some 125) (v := ?_) (a' := ?_) #[true, true, true, true, true, true, true, true, true, true, false, true, true, true, true, false, false, false, false, false, false, false] rfl rfl (by kernel_rfl) (fun _ _ _ h => h) (Or.inl ⟨by rfl, ?_⟩) ?_ ?_
                  rotate_left
                  · intro w'
                    go_simp
                    first | with_reducible rfl | rfl
                  rotate_left
                  · simp only [Act.put, List.setIfInBounds_toArray, List.set_cons_zero, List.set_cons_succ, i64_w, i32_w]
                    rfl
                  refine last_ (i := 10) (N := some 121) #[true, true, true, true, true, true, true, true, true, true, true, true, true, true, true, false, false, false, false, false, false, false] rfl rfl (by kernel_rfl) (by decide) (fun K hK => ?_)
                  refine goes_ Try.func18 (by kernel_rfl) rfl #[.slice (some ⟨b2, k * 3, none⟩) (fe.length - k) (c6 - k)] (by rfl) rfl rfl (by (try simp only [List.map_toArray, List.map_cons, List.map_nil]); first | done | rfl) ?_
                  refine (plainN (l := fe.drop k) List.length_drop (rowAt (Sts.getRow (L1 := []) (HD.out.step (Below.refl _ _).drew)) hk n6.out.1 (.inr (congrArg some (add_plain b2 (k * 3)).symm))) n8.out n6.out.2.2.2.2).mono ?_
                  rintro e w7 ⟨A7, c7, rfl, hp7, hb7⟩
                  refine ⟨_, rfl, ?_⟩
                  have H7 := (HD.out.step (Below.refl _ _).drew).step hb7
                  replace H7 := Lib.hid H7
                  replace hp7 := Lib.hid hp7
                  clear hb7
                  refine hK.out _ _ ?_
                  clear hK K
                  refine norm_ (a' := ?_) ?_ ?_
                  rotate_left
                  · show Act.put _ (some 121) _ = _
                    simp only [Act.put, List.setIfInBounds_toArray, List.set_cons_zero, List.set_cons_succ, i64_w, i32_w]
                    rfl
                  refine last_ (i := 15) (N := some 126) #[true, true, true, true, true, true, true, true, true, true, true, true, true, true, true, true, false, false, false, false, false, false] rfl rfl (by kernel_rfl) (by decide) (fun K hK => ?_)
                  refine goes_ Try.func18 (by kernel_rfl) rfl #[.slice (some ⟨b1, (k + 1) * 3, none⟩) (fl.length - (k + 1)) (c3 - (k + 1))] (by rfl) rfl rfl (by (try simp only [List.map_toArray, List.map_cons, List.map_nil]); first | done | rfl) ?_
                  refine (plainN (l := fe.drop k) n4.out (by rw [hend.out.2]; exact rowAt (Sts.getRow (L1 := [(.row (.slice (some ⟨b2, 0, none⟩) fe.length c6), fe), (boxAt bj, [x])]) H7.out) hkl n6.out.2.1 (.inr (congrArg some (add_plain b1 ((k + 1) * 3)).symm))) n5.out n6.out.2.2.2.2).mono ?_
                  rintro e w8 ⟨A8, c8, rfl, hp8, hb8⟩
                  refine ⟨_, rfl, ?_⟩
                  have H8 := H7.out.step hb8
                  have hp9 := hp7.out.step hb8
                  replace H8 := Lib.hid H8
                  replace hp8 := Lib.hid hp8
                  replace hp9 := Lib.hid hp9
                  clear hb8
                  refine hK.out _ _ ?_
                  clear hK K
                  refine norm_ (a' := ?_) ?_ ?_
                  rotate_left
                  · show Act.put _ (some 126) _ = _
                    simp only [Act.put, List.setIfInBounds_toArray, List.set_cons_zero, List.set_cons_succ, i64_w, i32_w]
                    rfl
                  refine last_ (i := 16) (N := some 127) #[true, true, true, true, true, true, true, true, true, true, true, true, true, true, true, true, true, false, false, false, false, false] rfl rfl (by kernel_rfl) (by decide) (fun K hK => ?_)
                  refine goes_ Try.func17 (by kernel_rfl) rfl #[.slice A7 (fe.drop k).length c7, .slice A8 (fe.drop k).length c8] (by rfl) rfl rfl (by (try simp only [List.map_toArray, List.map_cons, List.map_nil]); first | done | rfl) ?_
                  refine (sameC hp9.out hp8.out n6.out.2.2.2.2).mono ?_
                  rintro e w9 ⟨rfl, hb9⟩
                  refine ⟨_, rfl, ?_⟩
                  have H9 := H8.out.step hb9
                  replace H9 := Lib.hid H9
                  clear hb9
                  refine hK.out _ _ ?_
                  clear hK K
                  refine norm_ (a' := ?_) ?_ ?_
                  rotate_left
                  · show Act.put _ (some 127) _ = _
                    simp only [Act.put, List.setIfInBounds_toArray, List.set_cons_zero, List.set_cons_succ, i64_w, i32_w]
                    rfl
                  refine pure_ (i := 17) (N := some 128) (v := ?_) (a' := ?_) #[true, true, true, true, true, true, true, true, true, true, true, true, true, true, true, true, true, true, false, false, false, false] rfl rfl (by kernel_rfl) (fun _ _ _ h => h) (Or.inl ⟨by rfl, ?_⟩) ?_ ?_
                  rotate_left
                  · intro w'
                    go_simp
                    first | with_reducible rfl | rfl
                  rotate_left
                  · simp only [Act.put, List.setIfInBounds_toArray, List.set_cons_zero, List.set_cons_succ, i64_w, i32_w]
                    rfl
                  refine pure_ (i := 18) (N := some 129) (v := ?_) (a' := ?_) #[true, true, true, true, true, true, true, true, true, true, true, true, true, true, true, true, true, true, true, false, false, false] rfl rfl (by kernel_rfl) (fun _ _ _ h => h) (Or.inl ⟨by rfl, ?_⟩) ?_ ?_
                  rotate_left
                  · intro w'
                    go_simp
                    first | with_reducible rfl | rfl
                  rotate_left
                  · simp only [Act.put, List.setIfInBounds_toArray, List.set_cons_zero, List.set_cons_succ, i64_w, i32_w]
                    rfl
                  refine last_ (i := 19) (N := some 130) #[true, true, true, true, true, true, true, true, true, true, true, true, true, true, true, true, true, true, true, true, false, false] rfl rfl (by kernel_rfl) (by decide) (fun K hK => ?_)
                  refine goes_ Try.func22 (by kernel_rfl) rfl #[] (by rfl) rfl rfl (by (try simp only [List.map_toArray, List.map_cons, List.map_nil]); first | done | rfl) ?_
                  refine (known_walk _).mono ?_
                  rintro e w10 ⟨rfl, hb10⟩
                  refine ⟨_, rfl, ?_⟩
                  have HZ := H9.out.below.trans (hb10.mono H9.out.size)
                  replace HZ := Lib.hid HZ
                  clear hb10
                  refine hK.out _ _ ?_
                  clear hK K
                  refine norm_ (a' := ?_) ?_ ?_
                  rotate_left
                  · show Act.put _ (some 130) _ = _
                    simp only [Act.put, List.setIfInBounds_toArray, List.set_cons_zero, List.set_cons_succ, i64_w, i32_w]
                    rfl
                  refine pure_ (i := 20) (N := some 131) (v := ?_) (a' := ?_) #[true, true, true, true, true, true, true, true, true, true, true, true, true, true, true, true, true, true, true, true, true, false] rfl rfl (by kernel_rfl) (fun _ _ _ h => h) (Or.inl ⟨by rfl, ?_⟩) ?_ ?_
                  rotate_left
                  · intro w'
                    go_simp
                    first | with_reducible rfl | rfl
                  rotate_left
                  · simp only [Act.put, List.setIfInBounds_toArray, List.set_cons_zero, List.set_cons_succ, i64_w, i32_w]
                    rfl
                  refine pure_ (i := 21) (N := some 6) (v := ?_) (a' := ?_) #[true, true, true, true, true, true, true, true, true, true, true, true, true, true, true, true, true, true, true, true, true, true] rfl rfl (by kernel_rfl) (fun _ _ _ h => h) (Or.inl ⟨by rfl, ?_⟩) ?_ ?_
                  rotate_left
                  · intro w'
                    go_simp
                    first | with_reducible rfl | rfl
                  rotate_left
                  · simp only [Act.put, List.setIfInBounds_toArray, List.set_cons_zero, List.set_cons_succ, i64_w, i32_w]
                    rfl
                  refine done_ (by kernel_rfl) ?_
                  go_wp2_with fail
                  go_ret
                  exact ⟨rfl, HZ.out⟩
            · have dk : decide ((k : Int) < (fe.length : Int)) = false := decide_eq_false (by omega)
              have hend := hpure.out k hk hpre.out (fun h => absurd h hlk)
              replace hend := Lib.hid hend
              generalize hy : fl.getD k z30 = y at *
              replace hy := Lib.hid hy
              go_wp2_with fail
              go_quiet (fail)
              go_wp2_with fail
              obtain rfl : x = y := hend.out.1.symm
              have HD := HC.out.step (pw_below_drewN (Below.refl wr.heap.size wr) nq)
              obtain ⟨d0, d1, d2⟩ := Sts.box (L1 := [(.row (.slice A6 fe.length c6), fe)]) HD
              replace HD := Lib.hid HD
              have hki : (k : Int) ≤ (fe.length : Int) := by omega
              have n6 : fe.length ≤ 1000000 ∧ fl.length ≤ 1000000 ∧ fe.length - k ≤ c6 - k ∧ fl.length - (k + 1) ≤ c3 - (k + 1) ∧ (fe.drop k).length ≤ 100000 := ⟨by omega, by omega, by omega, by omega, by rw [List.length_drop]; omega⟩
              replace n6 := Lib.hid n6
              have n4 : (fe.drop k).length = fl.length - (k + 1) := by rw [hend.out.2, List.length_drop]
              replace n4 := Lib.hid n4
              have hke : k = fe.length := by omega
              replace hke := Lib.hid hke
              have hkb2 : k < 10000 := by omega
              have hform : (A6 = none ∧ c6 = 0) ∨ ∃ b2, A6 = some ⟨b2, 0, none⟩ := by
                rcases (Sts.getRow (L1 := []) HC.out).2 with ⟨h3, _⟩ | ⟨b2, cap, cur, h3, _⟩
                · injection h3 with h3 _ h5
                  exact .inl ⟨h3, h5⟩
                · injection h3 with h3 _ _
                  exact .inr ⟨b2, h3⟩
              clear hlk
              rcases hform with ⟨rfl, rfl⟩ | ⟨b2, rfl⟩
              · replace hc6 := Lib.hid hc6
                have n8 : fe.length - k ≤ 0 := by have := hke.out; omega
                replace n8 := Lib.hid n8
                rcases Nat.eq_or_lt_of_le (show k + 1 ≤ c3 by omega) with hcc | hcc
                · subst hcc
                  have n5 : fl.length - (k + 1) ≤ 0 := by omega
                  replace n5 := Lib.hid n5
                  have n7 : k + 1 = fl.length := by omega
                  replace n7 := Lib.hid n7
                  replace hc3 := Lib.hid hc3
                  obtain ⟨x1, x2, x3, x4, x5⟩ := idx_facts k fl.length hkl hkb2
                  refine start_ (n := 22) (S := fun w' => (w'.cell? ⟨b1, k * 3, none⟩ = some (.int .i64 x.f0) ∧ w'.cell? ⟨b1, k * 3 + 1, none⟩ = some (.int .i64 x.f1) ∧ w'.cell? ⟨b1, k * 3 + 2, none⟩ = some (.int .i64 x.f2)) ∧ w'.cell? ⟨bj, 0, none⟩ = some (.int .i64 x.f0) ∧ w'.cell? ⟨bj, 1, none⟩ = some (.int .i64 x.f1) ∧ w'.cell? ⟨bj, 2, none⟩ = some (.int .i64 x.f2)) (ds := [10, 15, 16, 19]) #[false, false, false, false, false, false, false, false, false, false, false, false, false, false, false, false, false, false, false, false, false, false] (by kernel_rfl) rfl rfl ⟨⟨c0, c1, c2⟩, d0, d1, d2⟩ (fun hHeld => ?_)
                  refine pure_ (i := 0) (N := some 111) (v := ?_) (a' := ?_) #[true, false, false, false, false, false, false, false, false, false, false, false, false, false, false, false, false, false, false, false, false, false] rfl rfl (by kernel_rfl) (fun _ _ _ h => h) (Or.inl ⟨by rfl, ?_⟩) ?_ ?_
                  rotate_left
                  · intro w'
                    go_simp
                    first | with_reducible rfl | rfl
                  rotate_left
                  · simp only [Act.put, List.setIfInBounds_toArray, List.set_cons_zero, List.set_cons_succ, i64_w, i32_w]
                    rfl
                  refine pure_ (i := 1) (N := some 112) (v := ?_) (a' := ?_) #[true, true, false, false, false, false, false, false, false, false, false, false, false, false, false, false, false, false, false, false, false, false] rfl rfl (by kernel_rfl) (fun _ _ _ h => h) (Or.inl ⟨by rfl, ?_⟩) ?_ ?_
                  rotate_left
                  · intro w'
                    go_simp
                    first | with_reducible rfl | rfl
                  rotate_left
                  · simp only [Act.put, List.setIfInBounds_toArray, List.set_cons_zero, List.set_cons_succ, i64_w, i32_w]
                    rfl
                  refine pure_ (i := 2) (N := some 113) (v := ?_) (a' := ?_) #[true, true, true, false, false, false, false, false, false, false, false, false, false, false, false, false, false, false, false, false, false, false] rfl rfl (by kernel_rfl) (fun _ _ _ h => h) (Or.inl ⟨by rfl, ?_⟩) ?_ ?_
                  rotate_left
                  · intro w'
                    go_simp
                    first | with_reducible rfl | rfl
                  rotate_left
                  · simp only [Act.put, List.setIfInBounds_toArray, List.set_cons_zero, List.set_cons_succ, i64_w, i32_w]
                    rfl
                  refine take_ (i := 3) (N := some 114) (v := ?_) (a' := ?_) #[true, true, true, true, false, false, false, false, false, false, false, false, false, false, false, false, false, false, false, false, false, false] rfl rfl (by kernel_rfl) (fun _ _ _ h => h) (Or.inl ⟨by rfl, ?_⟩) hHeld ?_ ?_
                  rotate_left
                  · rintro w' ⟨⟨s0, s1, s2⟩, s3, s4, s5⟩
                    go_simp
                    first | with_reducible rfl | rfl
                  rotate_left
                  · simp only [Act.put, List.setIfInBounds_toArray, List.set_cons_zero, List.set_cons_succ, i64_w, i32_w]
                    rfl
                  refine take_ (i := 4) (N := some 115) (v := ?_) (a' := ?_) #[true, true, true, true, true, false, false, false, false, false, false, false, false, false, false, false, false, false, false, false, false, false] rfl rfl (by kernel_rfl) (fun _ _ _ h => h) (Or.inl ⟨by rfl, ?_⟩) hHeld ?_ ?_
                  rotate_left
                  · rintro w' ⟨⟨s0, s1, s2⟩, s3, s4, s5⟩
                    go_simp
                    first | with_reducible rfl | rfl
                  rotate_left
                  · simp only [Act.put, List.setIfInBounds_toArray, List.set_cons_zero, List.set_cons_succ, i64_w, i32_w]
                    rfl
                  refine pure_ (i := 5) (N := some 116) (v := ?_) (a' := ?_) #[true, true, true, true, true, true, false, false, false, false, false, false, false, false, false, false, false, false, false, false, false, false] rfl rfl (by kernel_rfl) (fun _ _ _ h => h) (Or.inl ⟨by rfl, ?_⟩) ?_ ?_
                  rotate_left
                  · intro w'
                    go_simp
                    first | with_reducible rfl | rfl
                  rotate_left
                  · simp only [Act.put, List.setIfInBounds_toArray, List.set_cons_zero, List.set_cons_succ, i64_w, i32_w]
                    rfl
                  refine pure_ (i := 6) (N := some 117) (v := ?_) (a' := ?_) #[true, true, true, true, true, true, true, false, false, false, false, false, false, false, false, false, false, false, false, false, false, false] rfl rfl (by kernel_rfl) (fun _ _ _ h => h) (Or.inl ⟨by rfl, ?_⟩) ?_ ?_
                  rotate_left
                  · intro w'
                    go_simp
                    first | with_reducible rfl | rfl
                  rotate_left
                  · simp only [Act.put, List.setIfInBounds_toArray, List.set_cons_zero, List.set_cons_succ, i64_w, i32_w]
                    rfl
                  refine pure_ (i := 7) (N := some 118) (v := ?_) (a' := ?_) #[true, true, true, true, true, true, true, true, false, false, false, false, false, false, false, false, false, false, false, false, false, false] rfl rfl (by kernel_rfl) (fun _ _ _ h => h) (Or.inl ⟨by rfl, ?_⟩) ?_ ?_
                  rotate_left
                  · intro w'
                    go_simp
                    first | with_reducible rfl | rfl
                  rotate_left
                  · simp only [Act.put, List.setIfInBounds_toArray, List.set_cons_zero, List.set_cons_succ, i64_w, i32_w]
                    rfl
                  refine pure_ (i := 8) (N := some 119) (v := ?_) (a' := ?_) #[true, true, true, true, true, true, true, true, true, false, false, false, false, false, false, false, false, false, false, false, false, false] rfl rfl (by kernel_rfl) (fun _ _ _ h => h) (Or.inl ⟨by rfl, ?_⟩) ?_ ?_
                  rotate_left
                  · intro w'
                    go_simp
                    first | with_reducible rfl | rfl
                  rotate_left
                  · simp only [Act.put, List.setIfInBounds_toArray, List.set_cons_zero, List.set_cons_succ, i64_w, i32_w]
                    rfl
                  refine pure_ (i := 9) (N := some 120) (v := ?_) (a' := ?_) #[true, true, true, true, true, true, true, true, true, true, false, false, false, false, false, false, false, false, false, false, false, false] rfl rfl (by kernel_rfl) (fun _ _ _ h => h) (Or.inl ⟨by rfl, ?_⟩) ?_ ?_
                  rotate_left
                  · intro w'
                    go_simp
                    first | with_reducible rfl | rfl
                  rotate_left
                  · simp only [Act.put, List.setIfInBounds_toArray, List.set_cons_zero, List.set_cons_succ, i64_w, i32_w]
                    rfl
                  refine pure_ (i := 11) (N := some 122) (v := ?_) (a' := ?_) #[true, true, true, true, true, true, true, true, true, true, false, true, false, false, false, false, false, false, false, false, false, false] rfl rfl (by kernel_rfl) (fun _ _ _ h => h) (Or.inl ⟨by rfl, ?_⟩) ?_ ?_
                  rotate_left
                  · intro w'
                    go_simp
                    first | with_reducible rfl | rfl
                  rotate_left
                  · simp only [Act.put, List.setIfInBounds_toArray, List.set_cons_zero, List.set_cons_succ, i64_w, i32_w]
                    rfl
                  refine pure_ (i := 12) (N := some 123) (v := ?_) (a' := ?_) #[true, true, true, true, true, true, true, true, true, true, false, true, true, false, false, false, false, false, false, false, false, false] rfl rfl (by kernel_rfl) (fun _ _ _ h => h) (Or.inl ⟨by rfl, ?_⟩) ?_ ?_
                  rotate_left
                  · intro w'
                    go_simp
                    first | with_reducible rfl | rfl
                  rotate_left
                  · simp only [Act.put, List.setIfInBounds_toArray, List.set_cons_zero, List.set_cons_succ, i64_w, i32_w]
                    rfl
                  refine pure_ (i := 13) (N := some 124) (v := ?_) (a' := ?_) #[true, true, true, true, true, true, true, true, true, true, false, true, true, true, false, false, false, false, false, false, false, false] rfl rfl (by kernel_rfl) (fun _ _ _ h => h) (Or.inl ⟨by rfl, ?_⟩) ?_ ?_
                  rotate_left
                  · intro w'
                    go_simp
                    first | with_reducible rfl | rfl
                  rotate_left
                  · simp only [Act.put, List.setIfInBounds_toArray, List.set_cons_zero, List.set_cons_succ, i64_w, i32_w]
                    rfl
                  refine pure_ (i := 14) (N := some 125) (v := ?_) (a' := ?_) #[true, true, true, true, true, true, true, true, true, true, false, true, true, true, true, false, false, false, false, false, false, false] rfl rfl (by kernel_rfl) (fun _ _ _ h => h) (Or.inl ⟨by rfl, ?_⟩) ?_ ?_
                  rotate_left
                  · intro w'
                    go_simp
                    first | with_reducible rfl | rfl
                  rotate_left
                  · simp only [Act.put, List.setIfInBounds_toArray, List.set_cons_zero, List.set_cons_succ, i64_w, i32_w]
                    rfl
                  refine last_ (i := 10) (N := some 121) #[true, true, true, true, true, true, true, true, true, true, true, true, true, true, true, false, false, false, false, false, false, false] rfl rfl (by kernel_rfl) (by decide) (fun K hK => ?_)
                  refine goes_ Try.func18 (by kernel_rfl) rfl #[.slice none (fe.length - k) 0] (by rfl) rfl rfl (by (try simp only [List.map_toArray, List.map_cons, List.map_nil]); first | done | rfl) ?_
                  refine (plainN (l := fe.drop k) List.length_drop (rowAt (Sts.getRow (L1 := []) (HD.out.step (Below.refl _ _).drew)) hk n6.out.1 (.inl hke.out)) n8.out n6.out.2.2.2.2).mono ?_
                  rintro e w7 ⟨A7, c7, rfl, hp7, hb7⟩
                  refine ⟨_, rfl, ?_⟩
                  have H7 := (HD.out.step (Below.refl _ _).drew).step hb7
                  replace H7 := Lib.hid H7
                  replace hp7 := Lib.hid hp7
                  clear hb7
                  refine hK.out _ _ ?_
                  clear hK K
                  refine norm_ (a' := ?_) ?_ ?_
                  rotate_left
                  · show Act.put _ (some 121) _ = _
                    simp only [Act.put, List.setIfInBounds_toArray, List.set_cons_zero, List.set_cons_succ, i64_w, i32_w]
                    rfl
                  refine last_ (i := 15) (N := some 126) #[true, true, true, true, true, true, true, true, true, true, true, true, true, true, true, true, false, false, false, false, false, false] rfl rfl (by kernel_rfl) (by decide) (fun K hK => ?_)
                  refine goes_ Try.func18 (by kernel_rfl) rfl #[.slice (some ⟨b1, 0, none⟩) (fl.length - (k + 1)) 0] (by rfl) rfl rfl (by (try simp only [List.map_toArray, List.map_cons, List.map_nil]); first | done | rfl) ?_
                  refine (plainN (l := fe.drop k) n4.out (by rw [hend.out.2]; exact rowAt (Sts.getRow (L1 := [(.row (.slice none fe.length 0), fe), (boxAt bj, [x])]) H7.out) hkl n6.out.2.1 (.inl n7.out)) n5.out n6.out.2.2.2.2).mono ?_
                  rintro e w8 ⟨A8, c8, rfl, hp8, hb8⟩
                  refine ⟨_, rfl, ?_⟩
                  have H8 := H7.out.step hb8
                  have hp9 := hp7.out.step hb8
                  replace H8 := Lib.hid H8
                  replace hp8 := Lib.hid hp8
                  replace hp9 := Lib.hid hp9
                  clear hb8
                  refine hK.out _ _ ?_
                  clear hK K
                  refine norm_ (a' := ?_) ?_ ?_
                  rotate_left
                  · show Act.put _ (some 126) _ = _
                    simp only [Act.put, List.setIfInBounds_toArray, List.set_cons_zero, List.set_cons_succ, i64_w, i32_w]
                    rfl
                  refine last_ (i := 16) (N := some 127) #[true, true, true, true, true, true, true, true, true, true, true, true, true, true, true, true, true, false, false, false, false, false] rfl rfl (by kernel_rfl) (by decide) (fun K hK => ?_)
                  refine goes_ Try.func17 (by kernel_rfl) rfl #[.slice A7 (fe.drop k).length c7, .slice A8 (fe.drop k).length c8] (by rfl) rfl rfl (by (try simp only [List.map_toArray, List.map_cons, List.map_nil]); first | done | rfl) ?_
                  refine (sameC hp9.out hp8.out n6.out.2.2.2.2).mono ?_
                  rintro e w9 ⟨rfl, hb9⟩
                  refine ⟨_, rfl, ?_⟩
                  have H9 := H8.out.step hb9
                  replace H9 := Lib.hid H9
                  clear hb9
                  refine hK.out _ _ ?_
                  clear hK K
                  refine norm_ (a' := ?_) ?_ ?_
                  rotate_left
                  · show Act.put _ (some 127) _ = _
                    simp only [Act.put, List.setIfInBounds_toArray, List.set_cons_zero, List.set_cons_succ, i64_w, i32_w]
                    rfl
                  refine pure_ (i := 17) (N := some 128) (v := ?_) (a' := ?_) #[true, true, true, true, true, true, true, true, true, true, true, true, true, true, true, true, true, true, false, false, false, false] rfl rfl (by kernel_rfl) (fun _ _ _ h => h) (Or.inl ⟨by rfl, ?_⟩) ?_ ?_
                  rotate_left
                  · intro w'
                    go_simp
                    first | with_reducible rfl | rfl
                  rotate_left
                  · simp only [Act.put, List.setIfInBounds_toArray, List.set_cons_zero, List.set_cons_succ, i64_w, i32_w]
                    rfl
                  refine pure_ (i := 18) (N := some 129) (v := ?_) (a' := ?_) #[true, true, true, true, true, true, true, true, true, true, true, true, true, true, true, true, true, true, true, false, false, false] rfl rfl (by kernel_rfl) (fun _ _ _ h => h) (Or.inl ⟨by rfl, ?_⟩) ?_ ?_
                  rotate_left
                  · intro w'
                    go_simp
                    first | with_reducible rfl | rfl
                  rotate_left
                  · simp only [Act.put, List.setIfInBounds_toArray, List.set_cons_zero, List.set_cons_succ, i64_w, i32_w]
                    rfl
                  refine last_ (i := 19) (N := some 130) #[true, true, true, true, true, true, true, true, true, true, true, true, true, true, true, true, true, true, true, true, false, false] rfl rfl (by kernel_rfl) (by decide) (fun K hK => ?_)
                  refine goes_ Try.func22 (by kernel_rfl) rfl #[] (by rfl) rfl rfl (by (try simp only [List.map_toArray, List.map_cons, List.map_nil]); first | done | rfl) ?_
                  refine (known_walk _).mono ?_
                  rintro e w10 ⟨rfl, hb10⟩
                  refine ⟨_, rfl, ?_⟩
                  have HZ := H9.out.below.trans (hb10.mono H9.out.size)
                  replace HZ := Lib.hid HZ
                  clear hb10
                  refine hK.out _ _ ?_
                  clear hK K
                  refine norm_ (a' := ?_) ?_ ?_
                  rotate_left
                  · show Act.put _ (some 130) _ = _
                    simp only [Act.put, List.setIfInBounds_toArray, List.set_cons_zero, List.set_cons_succ, i64_w, i32_w]
                    rfl
                  refine pure_ (i := 20) (N := some 131) (v := ?_) (a' := ?_) #[true, true, true, true, true, true, true, true, true, true, true, true, true, true, true, true, true, true, true, true, true, false] rfl rfl (by kernel_rfl) (fun _ _ _ h => h) (Or.inl ⟨by rfl, ?_⟩) ?_ ?_
                  rotate_left
                  · intro w'
                    go_simp
                    first | with_reducible rfl | rfl
                  rotate_left
                  · simp only [Act.put, List.setIfInBounds_toArray, List.set_cons_zero, List.set_cons_succ, i64_w, i32_w]
                    rfl
                  refine pure_ (i := 21) (N := some 6) (v := ?_) (a' := ?_) #[true, true, true, true, true, true, true, true, true, true, true, true, true, true, true, true, true, true, true, true, true, true] rfl rfl (by kernel_rfl) (fun _ _ _ h => h) (Or.inl ⟨by rfl, ?_⟩) ?_ ?_
                  rotate_left
                  · intro w'
                    go_simp
                    first | with_reducible rfl | rfl
                  rotate_left
                  · simp only [Act.put, List.setIfInBounds_toArray, List.set_cons_zero, List.set_cons_succ, i64_w, i32_w]
                    rfl
                  refine done_ (by kernel_rfl) ?_
                  go_wp2_with fail
                  go_ret
                  exact ⟨rfl, HZ.out⟩
                · have hcn : ¬ c3 = k + 1 := Nat.ne_of_gt hcc
                  have n5 : fl.length - (k + 1) ≤ c3 - (k + 1) := by omega
                  replace n5 := Lib.hid n5
                  obtain ⟨x1, x2, x3, x4, x5⟩ := idx_facts k fl.length hkl hkb2
                  refine start_ (n := 22) (S := fun w' => (w'.cell? ⟨b1, k * 3, none⟩ = some (.int .i64 x.f0) ∧ w'.cell? ⟨b1, k * 3 + 1, none⟩ = some (.int .i64 x.f1) ∧ w'.cell? ⟨b1, k * 3 + 2, none⟩ = some (.int .i64 x.f2)) ∧ w'.cell? ⟨bj, 0, none⟩ = some (.int .i64 x.f0) ∧ w'.cell? ⟨bj, 1, none⟩ = some (.int .i64 x.f1) ∧ w'.cell? ⟨bj, 2, none⟩ = some (.int .i64 x.f2)) (ds := [10, 15, 16, 19]) #[false, false, false, false, false, false, false, false, false, false, false, false, false, false, false, false, false, false, false, false, false, false] (by kernel_rfl) rfl rfl ⟨⟨c0, c1, c2⟩, d0, d1, d2⟩ (fun hHeld => ?_)
                  refine pure_ (i := 0) (N := some 111) (v := ?_) (a' := ?_) #[true, false, false, false, false, false, false, false, false, false, false, false, false, false, false, false, false, false, false, false, false, false] rfl rfl (by kernel_rfl) (fun _ _ _ h => h) (Or.inl ⟨by rfl, ?_⟩) ?_ ?_
                  rotate_left
                  · intro w'
                    go_simp
                    first | with_reducible rfl | rfl
                  rotate_left
                  · simp only [Act.put, List.setIfInBounds_toArray, List.set_cons_zero, List.set_cons_succ, i64_w, i32_w]
                    rfl
                  refine pure_ (i := 1) (N := some 112) (v := ?_) (a' := ?_) #[true, true, false, false, false, false, false, false, false, false, false, false, false, false, false, false, false, false, false, false, false, false] rfl rfl (by kernel_rfl) (fun _ _ _ h => h) (Or.inl ⟨by rfl, ?_⟩) ?_ ?_
                  rotate_left
                  · intro w'
                    go_simp
                    first | with_reducible rfl | rfl
                  rotate_left
                  · simp only [Act.put, List.setIfInBounds_toArray, List.set_cons_zero, List.set_cons_succ, i64_w, i32_w]
                    rfl
                  refine pure_ (i := 2) (N := some 113) (v := ?_) (a' := ?_) #[true, true, true, false, false, false, false, false, false, false, false, false, false, false, false, false, false, false, false, false, false, false] rfl rfl (by kernel_rfl) (fun _ _ _ h => h) (Or.inl ⟨by rfl, ?_⟩) ?_ ?_
                  rotate_left
                  · intro w'
                    go_simp
                    first | with_reducible rfl | rfl
                  rotate_left
                  · simp only [Act.put, List.setIfInBounds_toArray, List.set_cons_zero, List.set_cons_succ, i64_w, i32_w]
                    rfl
                  refine take_ (i := 3) (N := some 114) (v := ?_) (a' := ?_) #[true, true, true, true, false, false, false, false, false, false, false, false, false, false, false, false, false, false, false, false, false, false] rfl rfl (by kernel_rfl) (fun _ _ _ h => h) (Or.inl ⟨by rfl, ?_⟩) hHeld ?_ ?_
                  rotate_left
                  · rintro w' ⟨⟨s0, s1, s2⟩, s3, s4, s5⟩
                    go_simp
                    first | with_reducible rfl | rfl
                  rotate_left
                  · simp only [Act.put, List.setIfInBounds_toArray, List.set_cons_zero, List.set_cons_succ, i64_w, i32_w]
                    rfl
                  refine take_ (i := 4) (N := some 115) (v := ?_) (a' := ?_) #[true, true, true, true, true, false, false, false, false, false, false, false, false, false, false, false, false, false, false, false, false, false] rfl rfl (by kernel_rfl) (fun _ _ _ h => h) (Or.inl ⟨by rfl, ?_⟩) hHeld ?_ ?_
                  rotate_left
                  · rintro w' ⟨⟨s0, s1, s2⟩, s3, s4, s5⟩
                    go_simp
                    first | with_reducible rfl | rfl
                  rotate_left
                  · simp only [Act.put, List.setIfInBounds_toArray, List.set_cons_zero, List.set_cons_succ, i64_w, i32_w]
                    rfl
                  refine pure_ (i := 5) (N := some 116) (v := ?_) (a' := ?_) #[true, true, true, true, true, true, false, false, false, false, false, false, false, false, false, false, false, false, false, false, false, false] rfl rfl (by kernel_rfl) (fun _ _ _ h => h) (Or.inl ⟨by rfl, ?_⟩) ?_ ?_
                  rotate_left
                  · intro w'
                    go_simp
                    first | with_reducible rfl | rfl
                  rotate_left
                  · simp only [Act.put, List.setIfInBounds_toArray, List.set_cons_zero, List.set_cons_succ, i64_w, i32_w]
                    rfl
                  refine pure_ (i := 6) (N := some 117) (v := ?_) (a' := ?_) #[true, true, true, true, true, true, true, false, false, false, false, false, false, false, false, false, false, false, false, false, false, false] rfl rfl (by kernel_rfl) (fun _ _ _ h => h) (Or.inl ⟨by rfl, ?_⟩) ?_ ?_
                  rotate_left
                  · intro w'
                    go_simp
                    first | with_reducible rfl | rfl
                  rotate_left
                  · simp only [Act.put, List.setIfInBounds_toArray, List.set_cons_zero, List.set_cons_succ, i64_w, i32_w]
                    rfl
                  refine pure_ (i := 7) (N := some 118) (v := ?_) (a' := ?_) #[true, true, true, true, true, true, true, true, false, false, false, false, false, false, false, false, false, false, false, false, false, false] rfl rfl (by kernel_rfl) (fun _ _ _ h => h) (Or.inl ⟨by rfl, ?_⟩) ?_ ?_
                  rotate_left
                  · intro w'
                    go_simp
                    first | with_reducible rfl | rfl
                  rotate_left
                  · simp only [Act.put, List.setIfInBounds_toArray, List.set_cons_zero, List.set_cons_succ, i64_w, i32_w]
                    rfl
                  refine pure_ (i := 8) (N := some 119) (v := ?_) (a' := ?_) #[true, true, true, true, true, true, true, true, true, false, false, false, false, false, false, false, false, false, false, false, false, false] rfl rfl (by kernel_rfl) (fun _ _ _ h => h) (Or.inl ⟨by rfl, ?_⟩) ?_ ?_
                  rotate_left
                  · intro w'
                    go_simp
                    first | with_reducible rfl | rfl
                  rotate_left
                  · simp only [Act.put, List.setIfInBounds_toArray, List.set_cons_zero, List.set_cons_succ, i64_w, i32_w]
                    rfl
                  refine pure_ (i := 9) (N := some 120) (v := ?_) (a' := ?_) #[true, true, true, true, true, true, true, true, true, true, false, false, false, false, false, false, false, false, false, false, false, false] rfl rfl (by kernel_rfl) (fun _ _ _ h => h) (Or.inl ⟨by rfl, ?_⟩) ?_ ?_
                  rotate_left
                  · intro w'
                    go_simp
                    first | with_reducible rfl | rfl
                  rotate_left
                  · simp only [Act.put, List.setIfInBounds_toArray, List.set_cons_zero, List.set_cons_succ, i64_w, i32_w]
                    rfl
                  refine pure_ (i := 11) (N := some 122) (v := ?_) (a' := ?_) #[true, true, true, true, true, true, true, true, true, true, false, true, false, false, false, false, false, false, false, false, false, false] rfl rfl (by kernel_rfl) (fun _ _ _ h => h) (Or.inl ⟨by rfl, ?_⟩) ?_ ?_
                  rotate_left
                  · intro w'
                    go_simp
                    first | with_reducible rfl | rfl
                  rotate_left
                  · simp only [Act.put, List.setIfInBounds_toArray, List.set_cons_zero, List.set_cons_succ, i64_w, i32_w]
                    rfl
                  refine pure_ (i := 12) (N := some 123) (v := ?_) (a' := ?_) #[true, true, true, true, true, true, true, true, true, true, false, true, true, false, false, false, false, false, false, false, false, false] rfl rfl (by kernel_rfl) (fun _ _ _ h => h) (Or.inl ⟨by rfl, ?_⟩) ?_ ?_
                  rotate_left
                  · intro w'
                    go_simp
                    first | with_reducible rfl | rfl
                  rotate_left
                  · simp only [Act.put, List.setIfInBounds_toArray, List.set_cons_zero, List.set_cons_succ, i64_w, i32_w]
                    rfl
                  refine pure_ (i := 13) (N := some 124) (v := ?_) (a' := ?_) #[true, true, true, true, true, true, true, true, true, true, false, true, true, true, false, false, false, false, false, false, false, false] rfl rfl (by kernel_rfl) (fun _ _ _ h => h) (Or.inl ⟨by rfl, ?_⟩) ?_ ?_
                  rotate_left
                  · intro w'
                    go_simp
                    first | with_reducible rfl | rfl
                  rotate_left
                  · simp only [Act.put, List.setIfInBounds_toArray, List.set_cons_zero, List.set_cons_succ, i64_w, i32_w]
                    rfl
                  refine pure_ (i := 14) (N := some 125) (v := ?_) (a' := ?_) #[true, true, true, true, true, true, true, true, true, true, false, true, true, true, true, false, false, false, false, false, false, false] rfl rfl (by kernel_rfl) (fun _ _ _ h => h) (Or.inl ⟨by rfl, ?_⟩) ?_ ?_
                  rotate_left
                  · intro w'
                    go_simp
                    first | with_reducible rfl | rfl
                  rotate_left
                  · simp only [Act.put, List.setIfInBounds_toArray, List.set_cons_zero, List.set_cons_succ, i64_w, i32_w]
                    rfl
                  refine last_ (i := 10) (N := some 121) #[true, true, true, true, true, true, true, true, true, true, true, true, true, true, true, false, false, false, false, false, false, false] rfl rfl (by kernel_rfl) (by decide) (fun K hK => ?_)
                  refine goes_ Try.func18 (by kernel_rfl) rfl #[.slice none (fe.length - k) 0] (by rfl) rfl rfl (by (try simp only [List.map_toArray, List.map_cons, List.map_nil]); first | done | rfl) ?_
                  refine (plainN (l := fe.drop k) List.length_drop (rowAt (Sts.getRow (L1 := []) (HD.out.step (Below.refl _ _).drew)) hk n6.out.1 (.inl hke.out)) n8.out n6.out.2.2.2.2).mono ?_
                  rintro e w7 ⟨A7, c7, rfl, hp7, hb7⟩
                  refine ⟨_, rfl, ?_⟩
                  have H7 := (HD.out.step (Below.refl _ _).drew).step hb7
                  replace H7 := Lib.hid H7
                  replace hp7 := Lib.hid hp7
                  clear hb7
                  refine hK.out _ _ ?_
                  clear hK K
                  refine norm_ (a' := ?_) ?_ ?_
                  rotate_left
                  · show Act.put _ (some 121) _ = _
                    simp only [Act.put, List.setIfInBounds_toArray, List.set_cons_zero, List.set_cons_succ, i64_w, i32_w]
                    rfl
                  refine last_ (i := 15) (N := some 126) #[true, true, true, true, true, true, true, true, true, true, true, true, true, true, true, true, false, false, false, false, false, false] rfl rfl (by kernel_rfl) (by decide) (fun K hK => ?_)
                  refine goes_ Try.func18 (by kernel_rfl) rfl #[.slice (some ⟨b1, (k + 1) * 3, none⟩) (fl.length - (k + 1)) (c3 - (k + 1))] (by rfl) rfl rfl (by (try simp only [List.map_toArray, List.map_cons, List.map_nil]); first | done | rfl) ?_
                  refine (plainN (l := fe.drop k) n4.out (by rw [hend.out.2]; exact rowAt (Sts.getRow (L1 := [(.row (.slice none fe.length 0), fe), (boxAt bj, [x])]) H7.out) hkl n6.out.2.1 (.inr (congrArg some (add_plain b1 ((k + 1) * 3)).symm))) n5.out n6.out.2.2.2.2).mono ?_
                  rintro e w8 ⟨A8, c8, rfl, hp8, hb8⟩
                  refine ⟨_, rfl, ?_⟩
                  have H8 := H7.out.step hb8
                  have hp9 := hp7.out.step hb8
                  replace H8 := Lib.hid H8
                  replace hp8 := Lib.hid hp8
                  replace hp9 := Lib.hid hp9
                  clear hb8
                  refine hK.out _ _ ?_
                  clear hK K
                  refine norm_ (a' := ?_) ?_ ?_
                  rotate_left
                  · show Act.put _ (some 126) _ = _
                    simp only [Act.put, List.setIfInBounds_toArray, List.set_cons_zero, List.set_cons_succ, i64_w, i32_w]
                    rfl
                  refine last_ (i := 16) (N := some 127) #[true, true, true, true, true, true, true, true, true, true, true, true, true, true, true, true, true, false, false, false, false, false] rfl rfl (by kernel_rfl) (by decide) (fun K hK => ?_)
                  refine goes_ Try.func17 (by kernel_rfl) rfl #[.slice A7 (fe.drop k).length c7, .slice A8 (fe.drop k).length c8] (by rfl) rfl rfl (by (try simp only [List.map_toArray, List.map_cons, List.map_nil]); first | done | rfl) ?_
                  refine (sameC hp9.out hp8.out n6.out.2.2.2.2).mono ?_
                  rintro e w9 ⟨rfl, hb9⟩
                  refine ⟨_, rfl, ?_⟩
                  have H9 := H8.out.step hb9
                  replace H9 := Lib.hid H9
                  clear hb9
                  refine hK.out _ _ ?_
                  clear hK K
                  refine norm_ (a' := ?_) ?_ ?_
                  rotate_left
                  · show Act.put _ (some 127) _ = _
                    simp only [Act.put, List.setIfInBounds_toArray, List.set_cons_zero, List.set_cons_succ, i64_w, i32_w]
                    rfl
                  refine pure_ (i := 17) (N := some 128) (v := ?_) (a' := ?_) #[true, true, true, true, true, true, true, true, true, true, true, true, true, true, true, true, true, true, false, false, false, false] rfl rfl (by kernel_rfl) (fun _ _ _ h => h) (Or.inl ⟨by rfl, ?_⟩) ?_ ?_
                  rotate_left
                  · intro w'
                    go_simp
                    first | with_reducible rfl | rfl
                  rotate_left
                  · simp only [Act.put, List.setIfInBounds_toArray, List.set_cons_zero, List.set_cons_succ, i64_w, i32_w]
                    rfl
                  refine pure_ (i := 18) (N := some 129) (v := ?_) (a' := ?_) #[true, true, true, true, true, true, true, true, true, true, true, true, true, true, true, true, true, true, true, false, false, false] rfl rfl (by kernel_rfl) (fun _ _ _ h => h) (Or.inl ⟨by rfl, ?_⟩) ?_ ?_
                  rotate_left
                  · intro w'
                    go_simp
                    first | with_reducible rfl | rfl
                  rotate_left
                  · simp only [Act.put, List.setIfInBounds_toArray, List.set_cons_zero, List.set_cons_succ, i64_w, i32_w]
                    rfl
                  refine last_ (i := 19) (N := some 130) #[true, true, true, true, true, true, true, true, true, true, true, true, true, true, true, true, true, true, true, true, false, false] rfl rfl (by kernel_rfl) (by decide) (fun K hK => ?_)
                  refine goes_ Try.func22 (by kernel_rfl) rfl #[] (by rfl) rfl rfl (by (try simp only [List.map_toArray, List.map_cons, List.map_nil]); first | done | rfl) ?_
                  refine (known_walk _).mono ?_
                  rintro e w10 ⟨rfl, hb10⟩
                  refine ⟨_, rfl, ?_⟩
                  have HZ := H9.out.below.trans (hb10.mono H9.out.size)
                  replace HZ := Lib.hid HZ
                  clear hb10
                  refine hK.out _ _ ?_
                  clear hK K
                  refine norm_ (a' := ?_) ?_ ?_
                  rotate_left
                  · show Act.put _ (some 130) _ = _
                    simp only [Act.put, List.setIfInBounds_toArray, List.set_cons_zero, List.set_cons_succ, i64_w, i32_w]
                    rfl
                  refine pure_ (i := 20) (N := some 131) (v := ?_) (a' := ?_) #[true, true, true, true, true, true, true, true, true, true, true, true, true, true, true, true, true, true, true, true, true, false] rfl rfl (by kernel_rfl) (fun _ _ _ h => h) (Or.inl ⟨by rfl, ?_⟩) ?_ ?_
                  rotate_left
                  · intro w'
                    go_simp
                    first | with_reducible rfl | rfl
                  rotate_left
                  · simp only [Act.put, List.setIfInBounds_toArray, List.set_cons_zero, List.set_cons_succ, i64_w, i32_w]
                    rfl
                  refine pure_ (i := 21) (N := some 6) (v := ?_) (a' := ?_) #[true, true, true, true, true, true, true, true, true, true, true, true, true, true, true, true, true, true, true, true, true, true] rfl rfl (by kernel_rfl) (fun _ _ _ h => h) (Or.inl ⟨by rfl, ?_⟩) ?_ ?_
                  rotate_left
                  · intro w'
                    go_simp
                    first | with_reducible rfl | rfl
                  rotate_left
                  · simp only [Act.put, List.setIfInBounds_toArray, List.set_cons_zero, List.set_cons_succ, i64_w, i32_w]
                    rfl
                  refine done_ (by kernel_rfl) ?_
                  go_wp2_with fail
                  go_ret
                  exact ⟨rfl, HZ.out⟩
              · rcases Nat.eq_or_lt_of_le (show k ≤ c6 by omega) with hck | hck
                · subst hck
                  replace hc6 := Lib.hid hc6
                  have n8 : fe.length - k ≤ 0 := by have := hke.out; omega
                  replace n8 := Lib.hid n8
                  rcases Nat.eq_or_lt_of_le (show k + 1 ≤ c3 by omega) with hcc | hcc
                  · subst hcc
                    have n5 : fl.length - (k + 1) ≤ 0 := by omega
                    replace n5 := Lib.hid n5
                    have n7 : k + 1 = fl.length := by omega
                    replace n7 := Lib.hid n7
                    replace hc3 := Lib.hid hc3
                    obtain ⟨x1, x2, x3, x4, x5⟩ := idx_facts k fl.length hkl hkb2
                    refine start_ (n := 22) (S := fun w' => (w'.cell? ⟨b1, k * 3, none⟩ = some (.int .i64 x.f0) ∧ w'.cell? ⟨b1, k * 3 + 1, none⟩ = some (.int .i64 x.f1) ∧ w'.cell? ⟨b1, k * 3 + 2, none⟩ = some (.int .i64 x.f2)) ∧ w'.cell? ⟨bj, 0, none⟩ = some (.int .i64 x.f0) ∧ w'.cell? ⟨bj, 1, none⟩ = some (.int .i64 x.f1) ∧ w'.cell? ⟨bj, 2, none⟩ = some (.int .i64 x.f2)) (ds := [10, 15, 16, 19]) #[false, false, false, false, false, false, false, false, false, false, false, false, false, false, false, false, false, false, false, false, false, false] (by kernel_rfl) rfl rfl ⟨⟨c0, c1, c2⟩, d0, d1, d2⟩ (fun hHeld => ?_)
                    refine pure_ (i := 0) (N := some 111) (v := ?_) (a' := ?_) #[true, false, false, false, false, false, false, false, false, false, false, false, false, false, false, false, false, false, false, false, false, false] rfl rfl (by kernel_rfl) (fun _ _ _ h => h) (Or.inl ⟨by rfl, ?_⟩) ?_ ?_
                    rotate_left
                    · intro w'
                      go_simp
                      first | with_reducible rfl | rfl
                    rotate_left
                    · simp only [Act.put, List.setIfInBounds_toArray, List.set_cons_zero, List.set_cons_succ, i64_w, i32_w]
                      rfl
                    refine pure_ (i := 1) (N := some 112) (v := ?_) (a' := ?_) #[true, true, false, false, false, false, false, false, false, false, false, false, false, false, false, false, false, false, false, false, false, false] rfl rfl (by kernel_rfl) (fun _ _ _ h => h) (Or.inl ⟨by rfl, ?_⟩) ?_ ?_
                    rotate_left
                    · intro w'
                      go_simp
                      first | with_reducible rfl | rfl
                    rotate_left
                    · simp only [Act.put, List.setIfInBounds_toArray, List.set_cons_zero, List.set_cons_succ, i64_w, i32_w]
                      rfl
                    refine pure_ (i := 2) (N := some 113) (v := ?_) (a' := ?_) #[true, true, true, false, false, false, false, false, false, false, false, false, false, false, false, false, false, false, false, false, false, false] rfl rfl (by kernel_rfl) (fun _ _ _ h => h) (Or.inl ⟨by rfl, ?_⟩) ?_ ?_
                    rotate_left
                    · intro w'
                      go_simp
                      first | with_reducible rfl | rfl
                    rotate_left
                    · simp only [Act.put, List.setIfInBounds_toArray, List.set_cons_zero, List.set_cons_succ, i64_w, i32_w]
                      rfl
                    refine take_ (i := 3) (N := some 114) (v := ?_) (a' := ?_) #[true, true, true, true, false, false, false, false, false, false, false, false, false, false, false, false, false, false, false, false, false, false] rfl rfl (by kernel_rfl) (fun _ _ _ h => h) (Or.inl ⟨by rfl, ?_⟩) hHeld ?_ ?_
                    rotate_left
                    · rintro w' ⟨⟨s0, s1, s2⟩, s3, s4, s5⟩
                      go_simp
                      first | with_reducible rfl | rfl
                    rotate_left
                    · simp only [Act.put, List.setIfInBounds_toArray, List.set_cons_zero, List.set_cons_succ, i64_w, i32_w]
                      rfl
                    refine take_ (i := 4) (N := some 115) (v := ?_) (a' := ?_) #[true, true, true, true, true, false, false, false, false, false, false, false, false, false, false, false, false, false, false, false, false, false] rfl rfl (by kernel_rfl) (fun _ _ _ h => h) (Or.inl ⟨by rfl, ?_⟩) hHeld ?_ ?_
                    rotate_left
                    · rintro w' ⟨⟨s0, s1, s2⟩, s3, s4, s5⟩
                      go_simp
                      first | with_reducible rfl | rfl
                    rotate_left
                    · simp only [Act.put, List.setIfInBounds_toArray, List.set_cons_zero, List.set_cons_succ, i64_w, i32_w]
                      rfl
                    refine pure_ (i := 5) (N := some 116) (v := ?_) (a' := ?_) #[true, true, true, true, true, true, false, false, false, false, false, false, false, false, false, false, false, false, false, false, false, false] rfl rfl (by kernel_rfl) (fun _ _ _ h => h) (Or.inl ⟨by rfl, ?_⟩) ?_ ?_
                    rotate_left
                    · intro w'
                      go_simp
                      first | with_reducible rfl | rfl
                    rotate_left
                    · simp only [Act.put, List.setIfInBounds_toArray, List.set_cons_zero, List.set_cons_succ, i64_w, i32_w]
                      rfl
                    refine pure_ (i := 6) (N := some 117) (v := ?_) (a' := ?_) #[true, true, true, true, true, true, true, false, false, false, false, false, false, false, false, false, false, false, false, false, false, false] rfl rfl (by kernel_rfl) (fun _ _ _ h => h) (Or.inl ⟨by rfl, ?_⟩) ?_ ?_
                    rotate_left
                    · intro w'
                      go_simp
                      first | with_reducible rfl | rfl
                    rotate_left
                    · simp only [Act.put, List.setIfInBounds_toArray, List.set_cons_zero, List.set_cons_succ, i64_w, i32_w]
                      rfl
                    refine pure_ (i := 7) (N := some 118) (v := ?_) (a' := ?_) #[true, true, true, true, true, true, true, true, false, false, false, false, false, false, false, false, false, false, false, false, false, false] rfl rfl (by kernel_rfl) (fun _ _ _ h => h) (Or.inl ⟨by rfl, ?_⟩) ?_ ?_
                    rotate_left
                    · intro w'
                      go_simp
                      first | with_reducible rfl | rfl
                    rotate_left
                    · simp only [Act.put, List.setIfInBounds_toArray, List.set_cons_zero, List.set_cons_succ, i64_w, i32_w]
                      rfl
                    refine pure_ (i := 8) (N := some 119) (v := ?_) (a' := ?_) #[true, true, true, true, true, true, true, true, true, false, false, false, false, false, false, false, false, false, false, false, false, false] rfl rfl (by kernel_rfl) (fun _ _ _ h => h) (Or.inl ⟨by rfl, ?_⟩) ?_ ?_
                    rotate_left
                    · intro w'
                      go_simp
                      first | with_reducible rfl | rfl
                    rotate_left
                    · simp only [Act.put, List.setIfInBounds_toArray, List.set_cons_zero, List.set_cons_succ, i64_w, i32_w]
                      rfl
                    refine pure_ (i := 9) (N := some 120) (v := ?_) (a' := ?_) #[true, true, true, true, true, true, true, true, true, true, false, false, false, false, false, false, false, false, false, false, false, false] rfl rfl (by kernel_rfl) (fun _ _ _ h => h) (Or.inl ⟨by rfl, ?_⟩) ?_ ?_
                    rotate_left
                    · intro w'
                      go_simp
                      first | with_reducible rfl | rfl
                    rotate_left
                    · simp only [Act.put, List.setIfInBounds_toArray, List.set_cons_zero, List.set_cons_succ, i64_w, i32_w]
                      rfl
                    refine pure_ (i := 11) (N := some 122) (v := ?_) (a' := ?_) #[true, true, true, true, true, true, true, true, true, true, false, true, false, false, false, false, false, false, false, false, false, false] rfl rfl (by kernel_rfl) (fun _ _ _ h => h) (Or.inl ⟨by rfl, ?_⟩) ?_ ?_
                    rotate_left
                    · intro w'
                      go_simp
                      first | with_reducible rfl | rfl
                    rotate_left
                    · simp only [Act.put, List.setIfInBounds_toArray, List.set_cons_zero, List.set_cons_succ, i64_w, i32_w]
                      rfl
                    refine pure_ (i := 12) (N := some 123) (v := ?_) (a' := ?_) #[true, true, true, true, true, true, true, true, true, true, false, true, true, false, false, false, false, false, false, false, false, false] rfl rfl (by kernel_rfl) (fun _ _ _ h => h) (Or.inl ⟨by rfl, ?_⟩) ?_ ?_
                    rotate_left
                    · intro w'
                      go_simp
                      first | with_reducible rfl | rfl
                    rotate_left
                    · simp only [Act.put, List.setIfInBounds_toArray, List.set_cons_zero, List.set_cons_succ, i64_w, i32_w]
                      rfl
                    refine pure_ (i := 13) (N := some 124) (v := ?_) (a' := ?_) #[true, true, true, true, true, true, true, true, true, true, false, true, true, true, false, false, false, false, false, false, false, false] rfl rfl (by kernel_rfl) (fun _ _ _ h => h) (Or.inl ⟨by rfl, ?_⟩) ?_ ?_
                    rotate_left
                    · intro w'
                      go_simp
                      first | with_reducible rfl | rfl
                    rotate_left
                    · simp only [Act.put, List.setIfInBounds_toArray, List.set_cons_zero, List.set_cons_succ, i64_w, i32_w]
                      rfl
                    refine pure_ (i := 14) (N := some 125) (v := ?_) (a' := ?_) #[true, true, true, true, true, true, true, true, true, true, false, true, true, true, true, false, false, false, false, false, false, false] rfl rfl (by kernel_rfl) (fun _ _ _ h => h) (Or.inl ⟨by rfl, ?_⟩) ?_ ?_
                    rotate_left
                    · intro w'
                      go_simp
                      first | with_reducible rfl | rfl
                    rotate_left
                    · simp only [Act.put, List.setIfInBounds_toArray, List.set_cons_zero, List.set_cons_succ, i64_w, i32_w]
                      rfl
                    refine last_ (i := 10) (N := some 121) #[true, true, true, true, true, true, true, true, true, true, true, true, true, true, true, false, false, false, false, false, false, false] rfl rfl (by kernel_rfl) (by decide) (fun K hK => ?_)
                    refine goes_ Try.func18 (by kernel_rfl) rfl #[.slice (some ⟨b2, 0, none⟩) (fe.length - k) 0] (by rfl) rfl rfl (by (try simp only [List.map_toArray, List.map_cons, List.map_nil]); first | done | rfl) ?_
                    refine (plainN (l := fe.drop k) List.length_drop (rowAt (Sts.getRow (L1 := []) (HD.out.step (Below.refl _ _).drew)) hk n6.out.1 (.inl hke.out)) n8.out n6.out.2.2.2.2).mono ?_
                    rintro e w7 ⟨A7, c7, rfl, hp7, hb7⟩
                    refine ⟨_, rfl, ?_⟩
                    have H7 := (HD.out.step (Below.refl _ _).drew).step hb7
                    replace H7 := Lib.hid H7
                    replace hp7 := Lib.hid hp7
                    clear hb7
                    refine hK.out _ _ ?_
                    clear hK K
                    refine norm_ (a' := ?_) ?_ ?_
                    rotate_left
                    · show Act.put _ (some 121) _ = _
                      simp only [Act.put, List.setIfInBounds_toArray, List.set_cons_zero, List.set_cons_succ, i64_w, i32_w]
                      rfl
                    refine last_ (i := 15) (N := some 126) #[true, true, true, true, true, true, true, true, true, true, true, true, true, true, true, true, false, false, false, false, false, false] rfl rfl (by kernel_rfl) (by decide) (fun K hK => ?_)
                    refine goes_ Try.func18 (by kernel_rfl) rfl #[.slice (some ⟨b1, 0, none⟩) (fl.length - (k + 1)) 0] (by rfl) rfl rfl (by (try simp only [List.map_toArray, List.map_cons, List.map_nil]); first | done | rfl) ?_
                    refine (plainN (l := fe.drop k) n4.out (by rw [hend.out.2]; exact rowAt (Sts.getRow (L1 := [(.row (.slice (some ⟨b2, 0, none⟩) fe.length k), fe), (boxAt bj, [x])]) H7.out) hkl n6.out.2.1 (.inl n7.out)) n5.out n6.out.2.2.2.2).mono ?_
                    rintro e w8 ⟨A8, c8, rfl, hp8, hb8⟩
                    refine ⟨_, rfl, ?_⟩
                    have H8 := H7.out.step hb8
                    have hp9 := hp7.out.step hb8
                    replace H8 := Lib.hid H8
                    replace hp8 := Lib.hid hp8
                    replace hp9 := Lib.hid hp9
                    clear hb8
                    refine hK.out _ _ ?_
                    clear hK K
                    refine norm_ (a' := ?_) ?_ ?_
                    rotate_left
                    · show Act.put _ (some 126) _ = _
                      simp only [Act.put, List.setIfInBounds_toArray, List.set_cons_zero, List.set_cons_succ, i64_w, i32_w]
                      rfl
                    refine last_ (i := 16) (N := some 127) #[true, true, true, true, true, true, true, true, true, true, true, true, true, true, true, true, true, false, false, false, false, false] rfl rfl (by kernel_rfl) (by decide) (fun K hK => ?_)
                    refine goes_ Try.func17 (by kernel_rfl) rfl #[.slice A7 (fe.drop k).length c7, .slice A8 (fe.drop k).length c8] (by rfl) rfl rfl (by (try simp only [List.map_toArray, List.map_cons, List.map_nil]); first | done | rfl) ?_
                    refine (sameC hp9.out hp8.out n6.out.2.2.2.2).mono ?_
                    rintro e w9 ⟨rfl, hb9⟩
                    refine ⟨_, rfl, ?_⟩
                    have H9 := H8.out.step hb9
                    replace H9 := Lib.hid H9
                    clear hb9
                    refine hK.out _ _ ?_
                    clear hK K
                    refine norm_ (a' := ?_) ?_ ?_
                    rotate_left
                    · show Act.put _ (some 127) _ = _
                      simp only [Act.put, List.setIfInBounds_toArray, List.set_cons_zero, List.set_cons_succ, i64_w, i32_w]
                      rfl
                    refine pure_ (i := 17) (N := some 128) (v := ?_) (a' := ?_) #[true, true, true, true, true, true, true, true, true, true, true, true, true, true, true, true, true, true, false, false, false, false] rfl rfl (by kernel_rfl) (fun _ _ _ h => h) (Or.inl ⟨by rfl, ?_⟩) ?_ ?_
                    rotate_left
                    · intro w'
                      go_simp
                      first | with_reducible rfl | rfl
                    rotate_left
                    · simp only [Act.put, List.setIfInBounds_toArray, List.set_cons_zero, List.set_cons_succ, i64_w, i32_w]
                      rfl
                    refine pure_ (i := 18) (N := some 129) (v := ?_) (a' := ?_) #[true, true, true, true, true, true, true, true, true, true, true, true, true, true, true, true, true, true, true, false, false, false] rfl rfl (by kernel_rfl) (fun _ _ _ h => h) (Or.inl ⟨by rfl, ?_⟩) ?_ ?_
                    rotate_left
                    · intro w'
                      go_simp
                      first | with_reducible rfl | rfl
                    rotate_left
                    · simp only [Act.put, List.setIfInBounds_toArray, List.set_cons_zero, List.set_cons_succ, i64_w, i32_w]
                      rfl
                    refine last_ (i := 19) (N := some 130) #[true, true, true, true, true, true, true, true, true, true, true, true, true, true, true, true, true, true, true, true, false, false] rfl rfl (by kernel_rfl) (by decide) (fun K hK => ?_)
                    refine goes_ Try.func22 (by kernel_rfl) rfl #[] (by rfl) rfl rfl (by (try simp only [List.map_toArray, List.map_cons, List.map_nil]); first | done | rfl) ?_
                    refine (known_walk _).mono ?_
                    rintro e w10 ⟨rfl, hb10⟩
                    refine ⟨_, rfl, ?_⟩
                    have HZ := H9.out.below.trans (hb10.mono H9.out.size)
                    replace HZ := Lib.hid HZ
                    clear hb10
                    refine hK.out _ _ ?_
                    clear hK K
                    refine norm_ (a' := ?_) ?_ ?_
                    rotate_left
                    · show Act.put _ (some 130) _ = _
                      simp only [Act.put, List.setIfInBounds_toArray, List.set_cons_zero, List.set_cons_succ, i64_w, i32_w]
                      rfl
                    refine pure_ (i := 20) (N := some 131) (v := ?_) (a' := ?_) #[true, true, true, true, true, true, true, true, true, true, true, true, true, true, true, true, true, true, true, true, true, false] rfl rfl (by kernel_rfl) (fun _ _ _ h => h) (Or.inl ⟨by rfl, ?_⟩) ?_ ?_
                    rotate_left
                    · intro w'
                      go_simp
                      first | with_reducible rfl | rfl
                    rotate_left
                    · simp only [Act.put, List.setIfInBounds_toArray, List.set_cons_zero, List.set_cons_succ, i64_w, i32_w]
                      rfl
                    refine pure_ (i := 21) (N := some 6) (v := ?_) (a' := ?_) #[true, true, true, true, true, true, true, true, true, true, true, true, true, true, true, true, true, true, true, true, true, true] rfl rfl (by kernel_rfl) (fun _ _ _ h => h) (Or.inl ⟨by rfl, ?_⟩) ?_ ?_
                    rotate_left
                    · intro w'
                      go_simp
                      first | with_reducible rfl | rfl
                    rotate_left
                    · simp only [Act.put, List.setIfInBounds_toArray, List.set_cons_zero, List.set_cons_succ, i64_w, i32_w]
                      rfl
                    refine done_ (by kernel_rfl) ?_
                    go_wp2_with fail
                    go_ret
                    exact ⟨rfl, HZ.out⟩
                  · have hcn : ¬ c3 = k + 1 := Nat.ne_of_gt hcc
                    have n5 : fl.length - (k + 1) ≤ c3 - (k + 1) := by omega
                    replace n5 := Lib.hid n5
                    obtain ⟨x1, x2, x3, x4, x5⟩ := idx_facts k fl.length hkl hkb2
                    refine start_ (n := 22) (S := fun w' => (w'.cell? ⟨b1, k * 3, none⟩ = some (.int .i64 x.f0) ∧ w'.cell? ⟨b1, k * 3 + 1, none⟩ = some (.int .i64 x.f1) ∧ w'.cell? ⟨b1, k * 3 + 2, none⟩ = some (.int .i64 x.f2)) ∧ w'.cell? ⟨bj, 0, none⟩ = some (.int .i64 x.f0) ∧ w'.cell? ⟨bj, 1, none⟩ = some (.int .i64 x.f1) ∧ w'.cell? ⟨bj, 2, none⟩ = some (.int .i64 x.f2)) (ds := [10, 15, 16, 19]) #[false, false, false, false, false, false, false, false, false, false, false, false, false, false, false, false, false, false, false, false, false, false] (by kernel_rfl) rfl rfl ⟨⟨c0, c1, c2⟩, d0, d1, d2⟩ (fun hHeld => ?_)
                    refine pure_ (i := 0) (N := some 111) (v := ?_) (a' := ?_) #[true, false, false, false, false, false, false, false, false, false, false, false, false, false, false, false, false, false, false, false, false, false] rfl rfl (by kernel_rfl) (fun _ _ _ h => h) (Or.inl ⟨by rfl, ?_⟩) ?_ ?_
                    rotate_left
                    · intro w'
                      go_simp
                      first | with_reducible rfl | rfl
                    rotate_left
                    · simp only [Act.put, List.setIfInBounds_toArray, List.set_cons_zero, List.set_cons_succ, i64_w, i32_w]
                      rfl
                    refine pure_ (i := 1) (N := some 112) (v := ?_) (a' := ?_) #[true, true, false, false, false, false, false, false, false, false, false, false, false, false, false, false, false, false, false, false, false, false] rfl rfl (by kernel_rfl) (fun _ _ _ h => h) (Or.inl ⟨by rfl, ?_⟩) ?_ ?_
                    rotate_left
                    · intro w'
                      go_simp
                      first | with_reducible rfl | rfl
                    rotate_left
                    · simp only [Act.put, List.setIfInBounds_toArray, List.set_cons_zero, List.set_cons_succ, i64_w, i32_w]
                      rfl
                    refine pure_ (i := 2) (N := some 113) (v := ?_) (a' := ?_) #[true, true, true, false, false, false, false, false, false, false, false, false, false, false, false, false, false, false, false, false, false, false] rfl rfl (by kernel_rfl) (fun _ _ _ h => h) (Or.inl ⟨by rfl, ?_⟩) ?_ ?_
                    rotate_left
                    · intro w'
                      go_simp
                      first | with_reducible rfl | rfl
                    rotate_left
                    · simp only [Act.put, List.setIfInBounds_toArray, List.set_cons_zero, List.set_cons_succ, i64_w, i32_w]
                      rfl
                    refine take_ (i := 3) (N := some 114) (v := ?_) (a' := ?_) #[true, true, true, true, false, false, false, false, false, false, false, false, false, false, false, false, false, false, false, false, false, false] rfl rfl (by kernel_rfl) (fun _ _ _ h => h) (Or.inl ⟨by rfl, ?_⟩) hHeld ?_ ?_
                    rotate_left
                    · rintro w' ⟨⟨s0, s1, s2⟩, s3, s4, s5⟩
                      go_simp
                      first | with_reducible rfl | rfl
                    rotate_left
                    · simp only [Act.put, List.setIfInBounds_toArray, List.set_cons_zero, List.set_cons_succ, i64_w, i32_w]
                      rfl
                    refine take_ (i := 4) (N := some 115) (v := ?_) (a' := ?_) #[true, true, true, true, true, false, false, false, false, false, false, false, false, false, false, false, false, false, false, false, false, false] rfl rfl (by kernel_rfl) (fun _ _ _ h => h) (Or.inl ⟨by rfl, ?_⟩) hHeld ?_ ?_
                    rotate_left
                    · rintro w' ⟨⟨s0, s1, s2⟩, s3, s4, s5⟩
                      go_simp
                      first | with_reducible rfl | rfl
                    rotate_left
                    · simp only [Act.put, List.setIfInBounds_toArray, List.set_cons_zero, List.set_cons_succ, i64_w, i32_w]
                      rfl
                    refine pure_ (i := 5) (N := some 116) (v := ?_) (a' := ?_) #[true, true, true, true, true, true, false, false, false, false, false, false, false, false, false, false, false, false, false, false, false, false] rfl rfl (by kernel_rfl) (fun _ _ _ h => h) (Or.inl ⟨by rfl, ?_⟩) ?_ ?_
                    rotate_left
                    · intro w'
                      go_simp
                      first | with_reducible rfl | rfl
                    rotate_left
                    · simp only [Act.put, List.setIfInBounds_toArray, List.set_cons_zero, List.set_cons_succ, i64_w, i32_w]
                      rfl
                    refine pure_ (i := 6) (N := some 117) (v := ?_) (a' := ?_) #[true, true, true, true, true, true, true, false, false, false, false, false, false, false, false, false, false, false, false, false, false, false] rfl rfl (by kernel_rfl) (fun _ _ _ h => h) (Or.inl ⟨by rfl, ?_⟩) ?_ ?_
                    rotate_left
                    · intro w'
                      go_simp
                      first | with_reducible rfl | rfl
                    rotate_left
                    · simp only [Act.put, List.setIfInBounds_toArray, List.set_cons_zero, List.set_cons_succ, i64_w, i32_w]
                      rfl
                    refine pure_ (i := 7) (N := some 118) (v := ?_) (a' := ?_) #[true, true, true, true, true, true, true, true, false, false, false, false, false, false, false, false, false, false, false, false, false, false] rfl rfl (by kernel_rfl) (fun _ _ _ h => h) (Or.inl ⟨by rfl, ?_⟩) ?_ ?_
                    rotate_left
                    · intro w'
                      go_simp
                      first | with_reducible rfl | rfl
                    rotate_left
                    · simp only [Act.put, List.setIfInBounds_toArray, List.set_cons_zero, List.set_cons_succ, i64_w, i32_w]
                      rfl
                    refine pure_ (i := 8) (N := some 119) (v := ?_) (a' := ?_) #[true, true, true, true, true, true, true, true, true, false, false, false, false, false, false, false, false, false, false, false, false, false] rfl rfl (by kernel_rfl) (fun _ _ _ h => h) (Or.inl ⟨by rfl, ?_⟩) ?_ ?_
                    rotate_left
                    · intro w'
                      go_simp
                      first | with_reducible rfl | rfl
                    rotate_left
                    · simp only [Act.put, List.setIfInBounds_toArray, List.set_cons_zero, List.set_cons_succ, i64_w, i32_w]
                      rfl
                    refine pure_ (i := 9) (N := some 120) (v := ?_) (a' := ?_) #[true, true, true, true, true, true, true, true, true, true, false, false, false, false, false, false, false, false, false, false, false, false] rfl rfl (by kernel_rfl) (fun _ _ _ h => h) (Or.inl ⟨by rfl, ?_⟩) ?_ ?_
                    rotate_left
                    · intro w'
                      go_simp
                      first | with_reducible rfl | rfl
                    rotate_left
                    · simp only [Act.put, List.setIfInBounds_toArray, List.set_cons_zero, List.set_cons_succ, i64_w, i32_w]
                      rfl
                    refine pure_ (i := 11) (N := some 122) (v := ?_) (a' := ?_) #[true, true, true, true, true, true, true, true, true, true, false, true, false, false, false, false, false, false, false, false, false, false] rfl rfl (by kernel_rfl) (fun _ _ _ h => h) (Or.inl ⟨by rfl, ?_⟩) ?_ ?_
                    rotate_left
                    · intro w'
                      go_simp
                      first | with_reducible rfl | rfl
                    rotate_left
                    · simp only [Act.put, List.setIfInBounds_toArray, List.set_cons_zero, List.set_cons_succ, i64_w, i32_w]
                      rfl
                    refine pure_ (i := 12) (N := some 123) (v := ?_) (a' := ?_) #[true, true, true, true, true, true, true, true, true, true, false, true, true, false, false, false, false, false, false, false, false, false] rfl rfl (by kernel_rfl) (fun _ _ _ h => h) (Or.inl ⟨by rfl, ?_⟩) ?_ ?_
                    rotate_left
                    · intro w'
                      go_simp
                      first | with_reducible rfl | rfl
                    rotate_left
                    · simp only [Act.put, List.setIfInBounds_toArray, List.set_cons_zero, List.set_cons_succ, i64_w, i32_w]
                      rfl
                    refine pure_ (i := 13) (N := some 124) (v := ?_) (a' := ?_) #[true, true, true, true, true, true, true, true, true, true, false, true, true, true, false, false, false, false, false, false, false, false] rfl rfl (by kernel_rfl) (fun _ _ _ h => h) (Or.inl ⟨by rfl, ?_⟩) ?_ ?_
                    rotate_left
                    · intro w'
                      go_simp
                      first | with_reducible rfl | rfl
                    rotate_left
                    · simp only [Act.put, List.setIfInBounds_toArray, List.set_cons_zero, List.set_cons_succ, i64_w, i32_w]
                      rfl
                    refine pure_ (i := 14) (N := some 125) (v := ?_) (a' := ?_) #[true, true, true, true, true, true, true, true, true, true, false, true, true, true, true, false, false, false, false, false, false, false] rfl rfl (by kernel_rfl) (fun _ _ _ h => h) (Or.inl ⟨by rfl, ?_⟩) ?_ ?_
                    rotate_left
                    · intro w'
                      go_simp
                      first | with_reducible rfl | rfl
                    rotate_left
                    · simp only [Act.put, List.setIfInBounds_toArray, List.set_cons_zero, List.set_cons_succ, i64_w, i32_w]
                      rfl
                    refine last_ (i := 10) (N := some 121) #[true, true, true, true, true, true, true, true, true, true, true, true, true, true, true, false, false, false, false, false, false, false] rfl rfl (by kernel_rfl) (by decide) (fun K hK => ?_)
                    refine goes_ Try.func18 (by kernel_rfl) rfl #[.slice (some ⟨b2, 0, none⟩) (fe.length - k) 0] (by rfl) rfl rfl (by (try simp only [List.map_toArray, List.map_cons, List.map_nil]); first | done | rfl) ?_
                    refine (plainN (l := fe.drop k) List.length_drop (rowAt (Sts.getRow (L1 := []) (HD.out.step (Below.refl _ _).drew)) hk n6.out.1 (.inl hke.out)) n8.out n6.out.2.2.2.2).mono ?_
                    rintro e w7 ⟨A7, c7, rfl, hp7, hb7⟩
                    refine ⟨_, rfl, ?_⟩
                    have H7 := (HD.out.step (Below.refl _ _).drew).step hb7
                    replace H7 := Lib.hid H7
                    replace hp7 := Lib.hid hp7
                    clear hb7
                    refine hK.out _ _ ?_
                    clear hK K
                    refine norm_ (a' := ?_) ?_ ?_
                    rotate_left
                    · show Act.put _ (some 121) _ = _
                      simp only [Act.put, List.setIfInBounds_toArray, List.set_cons_zero, List.set_cons_succ, i64_w, i32_w]
                      rfl
                    refine last_ (i := 15) (N := some 126) #[true, true, true, true, true, true, true, true, true, true, true, true, true, true, true, true, false, false, false, false, false, false] rfl rfl (by kernel_rfl) (by decide) (fun K hK => ?_)
                    refine goes_ Try.func18 (by kernel_rfl) rfl #[.slice (some ⟨b1, (k + 1) * 3, none⟩) (fl.length - (k + 1)) (c3 - (k + 1))] (by rfl) rfl rfl (by (try simp only [List.map_toArray, List.map_cons, List.map_nil]); first | done | rfl) ?_
                    refine (plainN (l := fe.drop k) n4.out (by rw [hend.out.2]; exact rowAt (Sts.getRow (L1 := [(.row (.slice (some ⟨b2, 0, none⟩) fe.length k), fe), (boxAt bj, [x])]) H7.out) hkl n6.out.2.1 (.inr (congrArg some (add_plain b1 ((k + 1) * 3)).symm))) n5.out n6.out.2.2.2.2).mono ?_
                    rintro e w8 ⟨A8, c8, rfl, hp8, hb8⟩
                    refine ⟨_, rfl, ?_⟩
                    have H8 := H7.out.step hb8
                    have hp9 := hp7.out.step hb8
                    replace H8 := Lib.hid H8
                    replace hp8 := Lib.hid hp8
                    replace hp9 := Lib.hid hp9
                    clear hb8
                    refine hK.out _ _ ?_
                    clear hK K
                    refine norm_ (a' := ?_) ?_ ?_
                    rotate_left
                    · show Act.put _ (some 126) _ = _
                      simp only [Act.put, List.setIfInBounds_toArray, List.set_cons_zero, List.set_cons_succ, i64_w, i32_w]
                      rfl
                    refine last_ (i := 16) (N := some 127) #[true, true, true, true, true, true, true, true, true, true, true, true, true, true, true, true, true, false, false, false, false, false] rfl rfl (by kernel_rfl) (by decide) (fun K hK => ?_)
                    refine goes_ Try.func17 (by kernel_rfl) rfl #[.slice A7 (fe.drop k).length c7, .slice A8 (fe.drop k).length c8] (by rfl) rfl rfl (by (try simp only [List.map_toArray, List.map_cons, List.map_nil]); first | done | rfl) ?_
                    refine (sameC hp9.out hp8.out n6.out.2.2.2.2).mono ?_
                    rintro e w9 ⟨rfl, hb9⟩
                    refine ⟨_, rfl, ?_⟩
                    have H9 := H8.out.step hb9
                    replace H9 := Lib.hid H9
                    clear hb9
                    refine hK.out _ _ ?_
                    clear hK K
                    refine norm_ (a' := ?_) ?_ ?_
                    rotate_left
                    · show Act.put _ (some 127) _ = _
                      simp only [Act.put, List.setIfInBounds_toArray, List.set_cons_zero, List.set_cons_succ, i64_w, i32_w]
                      rfl
                    refine pure_ (i := 17) (N := some 128) (v := ?_) (a' := ?_) #[true, true, true, true, true, true, true, true, true, true, true, true, true, true, true, true, true, true, false, false, false, false] rfl rfl (by kernel_rfl) (fun _ _ _ h => h) (Or.inl ⟨by rfl, ?_⟩) ?_ ?_
                    rotate_left
                    · intro w'
                      go_simp
                      first | with_reducible rfl | rfl
                    rotate_left
                    · simp only [Act.put, List.setIfInBounds_toArray, List.set_cons_zero, List.set_cons_succ, i64_w, i32_w]
                      rfl
                    refine pure_ (i := 18) (N := some 129) (v := ?_) (a' := ?_) #[true, true, true, true, true, true, true, true, true, true, true, true, true, true, true, true, true, true, true, false, false, false] rfl rfl (by kernel_rfl) (fun _ _ _ h => h) (Or.inl ⟨by rfl, ?_⟩) ?_ ?_
                    rotate_left
                    · intro w'
                      go_simp
                      first | with_reducible rfl | rfl
                    rotate_left
                    · simp only [Act.put, List.setIfInBounds_toArray, List.set_cons_zero, List.set_cons_succ, i64_w, i32_w]
                      rfl
                    refine last_ (i := 19) (N := some 130) #[true, true, true, true, true, true, true, true, true, true, true, true, true, true, true, true, true, true, true, true, false, false] rfl rfl (by kernel_rfl) (by decide) (fun K hK => ?_)
                    refine goes_ Try.func22 (by kernel_rfl) rfl #[] (by rfl) rfl rfl (by (try simp only [List.map_toArray, List.map_cons, List.map_nil]); first | done | rfl) ?_
                    refine (known_walk _).mono ?_
                    rintro e w10 ⟨rfl, hb10⟩
                    refine ⟨_, rfl, ?_⟩
                    have HZ := H9.out.below.trans (hb10.mono H9.out.size)
                    replace HZ := Lib.hid HZ
                    clear hb10
                    refine hK.out _ _ ?_
                    clear hK K
                    refine norm_ (a' := ?_) ?_ ?_
                    rotate_left
                    · show Act.put _ (some 130) _ = _
                      simp only [Act.put, List.setIfInBounds_toArray, List.set_cons_zero, List.set_cons_succ, i64_w, i32_w]
                      rfl
                    refine pure_ (i := 20) (N := some 131) (v := ?_) (a' := ?_) #[true, true, true, true, true, true, true, true, true, true, true, true, true, true, true, true, true, true, true, true, true, false] rfl rfl (by kernel_rfl) (fun _ _ _ h => h) (Or.inl ⟨by rfl, ?_⟩) ?_ ?_
                    rotate_left
                    · intro w'
                      go_simp
                      first | with_reducible rfl | rfl
                    rotate_left
                    · simp only [Act.put, List.setIfInBounds_toArray, List.set_cons_zero, List.set_cons_succ, i64_w, i32_w]
                      rfl
                    refine pure_ (i := 21) (N := some 6) (v := ?_) (a' := ?_) #[true, true, true, true, true, true, true, true, true, true, true, true, true, true, true, true, true, true, true, true, true, true] rfl rfl (by kernel_rfl) (fun _ _ _ h => h) (Or.inl ⟨by rfl, ?_⟩) ?_ ?_
                    rotate_left
                    · intro w'
                      go_simp
                      first | with_reducible rfl | rfl
                    rotate_left
                    · simp only [Act.put, List.setIfInBounds_toArray, List.set_cons_zero, List.set_cons_succ, i64_w, i32_w]
                      rfl
                    refine done_ (by kernel_rfl) ?_
                    go_wp2_with fail
                    go_ret
                    exact ⟨rfl, HZ.out⟩
                · have hc6n : ¬ c6 = k := Nat.ne_of_gt hck
                  replace hc6 := Lib.hid hc6
                  have n8 : fe.length - k ≤ c6 - k := by have := hke.out; omega
                  replace n8 := Lib.hid n8
                  rcases Nat.eq_or_lt_of_le (show k + 1 ≤ c3 by omega) with hcc | hcc
                  · subst hcc
                    have n5 : fl.length - (k + 1) ≤ 0 := by omega
                    replace n5 := Lib.hid n5
                    have n7 : k + 1 = fl.length := by omega
                    replace n7 := Lib.hid n7
                    replace hc3 := Lib.hid hc3
                    obtain ⟨x1, x2, x3, x4, x5⟩ := idx_facts k fl.length hkl hkb2
                    refine start_ (n := 22) (S := fun w' => (w'.cell? ⟨b1, k * 3, none⟩ = some (.int .i64 x.f0) ∧ w'.cell? ⟨b1, k * 3 + 1, none⟩ = some (.int .i64 x.f1) ∧ w'.cell? ⟨b1, k * 3 + 2, none⟩ = some (.int .i64 x.f2)) ∧ w'.cell? ⟨bj, 0, none⟩ = some (.int .i64 x.f0) ∧ w'.cell? ⟨bj, 1, none⟩ = some (.int .i64 x.f1) ∧ w'.cell? ⟨bj, 2, none⟩ = some (.int .i64 x.f2)) (ds := [10, 15, 16, 19]) #[false, false, false, false, false, false, false, false, false, false, false, false, false, false, false, false, false, false, false, false, false, false] (by kernel_rfl) rfl rfl ⟨⟨c0, c1, c2⟩, d0, d1, d2⟩ (fun hHeld => ?_)
                    refine pure_ (i := 0) (N := some 111) (v := ?_) (a' := ?_) #[true, false, false, false, false, false, false, false, false, false, false, false, false, false, false, false, false, false, false, false, false, false] rfl rfl (by kernel_rfl) (fun _ _ _ h => h) (Or.inl ⟨by rfl, ?_⟩) ?_ ?_
                    rotate_left
                    · intro w'
                      go_simp
                      first | with_reducible rfl | rfl
                    rotate_left
                    · simp only [Act.put, List.setIfInBounds_toArray, List.set_cons_zero, List.set_cons_succ, i64_w, i32_w]
                      rfl
                    refine pure_ (i := 1) (N := some 112) (v := ?_) (a' := ?_) #[true, true, false, false, false, false, false, false, false, false, false, false, false, false, false, false, false, false, false, false, false, false] rfl rfl (by kernel_rfl) (fun _ _ _ h => h) (Or.inl ⟨by rfl, ?_⟩) ?_ ?_
                    rotate_left
                    · intro w'
                      go_simp
                      first | with_reducible rfl | rfl
                    rotate_left
                    · simp only [Act.put, List.setIfInBounds_toArray, List.set_cons_zero, List.set_cons_succ, i64_w, i32_w]
                      rfl
                    refine pure_ (i := 2) (N := some 113) (v := ?_) (a' := ?_) #[true, true, true, false, false, false, false, false, false, false, false, false, false, false, false, false, false, false, false, false, false, false] rfl rfl (by kernel_rfl) (fun _ _ _ h => h) (Or.inl ⟨by rfl, ?_⟩) ?_ ?_
                    rotate_left
                    · intro w'
                      go_simp
                      first | with_reducible rfl | rfl
                    rotate_left
                    · simp only [Act.put, List.setIfInBounds_toArray, List.set_cons_zero, List.set_cons_succ, i64_w, i32_w]
                      rfl
                    refine take_ (i := 3) (N := some 114) (v := ?_) (a' := ?_) #[true, true, true, true, false, false, false, false, false, false, false, false, false, false, false, false, false, false, false, false, false, false] rfl rfl (by kernel_rfl) (fun _ _ _ h => h) (Or.inl ⟨by rfl, ?_⟩) hHeld ?_ ?_
                    rotate_left
                    · rintro w' ⟨⟨s0, s1, s2⟩, s3, s4, s5⟩
                      go_simp
                      first | with_reducible rfl | rfl
                    rotate_left
                    · simp only [Act.put, List.setIfInBounds_toArray, List.set_cons_zero, List.set_cons_succ, i64_w, i32_w]
                      rfl
                    refine take_ (i := 4) (N := some 115) (v := ?_) (a' := ?_) #[true, true, true, true, true, false, false, false, false, false, false, false, false, false, false, false, false, false, false, false, false, false] rfl rfl (by kernel_rfl) (fun _ _ _ h => h) (Or.inl ⟨by rfl, ?_⟩) hHeld ?_ ?_
                    rotate_left
                    · rintro w' ⟨⟨s0, s1, s2⟩, s3, s4, s5⟩
                      go_simp
                      first | with_reducible rfl | rfl
                    rotate_left
                    · simp only [Act.put, List.setIfInBounds_toArray, List.set_cons_zero, List.set_cons_succ, i64_w, i32_w]
                      rfl
                    refine pure_ (i := 5) (N := some 116) (v := ?_) (a' := ?_) #[true, true, true, true, true, true, false, false, false, false, false, false, false, false, false, false, false, false, false, false, false, false] rfl rfl (by kernel_rfl) (fun _ _ _ h => h) (Or.inl ⟨by rfl, ?_⟩) ?_ ?_
                    rotate_left
                    · intro w'
                      go_simp
                      first | with_reducible rfl | rfl
                    rotate_left
                    · simp only [Act.put, List.setIfInBounds_toArray, List.set_cons_zero, List.set_cons_succ, i64_w, i32_w]
                      rfl
                    refine pure_ (i := 6) (N := some 117) (v := ?_) (a' := ?_) #[true, true, true, true, true, true, true, false, false, false, false, false, false, false, false, false, false, false, false, false, false, false] rfl rfl (by kernel_rfl) (fun _ _ _ h => h) (Or.inl ⟨by rfl, ?_⟩) ?_ ?_
                    rotate_left
                    · intro w'
                      go_simp
                      first | with_reducible rfl | rfl
                    rotate_left
                    · simp only [Act.put, List.setIfInBounds_toArray, List.set_cons_zero, List.set_cons_succ, i64_w, i32_w]
                      rfl
                    refine pure_ (i := 7) (N := some 118) (v := ?_) (a' := ?_) #[true, true, true, true, true, true, true, true, false, false, false, false, false, false, false, false, false, false, false, false, false, false] rfl rfl (by kernel_rfl) (fun _ _ _ h => h) (Or.inl ⟨by rfl, ?_⟩) ?_ ?_
                    rotate_left
                    · intro w'
                      go_simp
                      first | with_reducible rfl | rfl
                    rotate_left
                    · simp only [Act.put, List.setIfInBounds_toArray, List.set_cons_zero, List.set_cons_succ, i64_w, i32_w]
                      rfl
                    refine pure_ (i := 8) (N := some 119) (v := ?_) (a' := ?_) #[true, true, true, true, true, true, true, true, true, false, false, false, false, false, false, false, false, false, false, false, false, false] rfl rfl (by kernel_rfl) (fun _ _ _ h => h) (Or.inl ⟨by rfl, ?_⟩) ?_ ?_
                    rotate_left
                    · intro w'
                      go_simp
                      first | with_reducible rfl | rfl
                    rotate_left
                    · simp only [Act.put, List.setIfInBounds_toArray, List.set_cons_zero, List.set_cons_succ, i64_w, i32_w]
                      rfl
                    refine pure_ (i := 9) (N := some 120) (v := ?_) (a' := ?_) #[true, true, true, true, true, true, true, true, true, true, false, false, false, false, false, false, false, false, false, false, false, false] rfl rfl (by kernel_rfl) (fun _ _ _ h => h) (Or.inl ⟨by rfl, ?_⟩) ?_ ?_
                    rotate_left
                    · intro w'
                      go_simp
                      first | with_reducible rfl | rfl
                    rotate_left
                    · simp only [Act.put, List.setIfInBounds_toArray, List.set_cons_zero, List.set_cons_succ, i64_w, i32_w]
                      rfl
                    refine pure_ (i := 11) (N := some 122) (v := ?_) (a' := ?_) #[true, true, true, true, true, true, true, true, true, true, false, true, false, false, false, false, false, false, false, false, false, false] rfl rfl (by kernel_rfl) (fun _ _ _ h => h) (Or.inl ⟨by rfl, ?_⟩) ?_ ?_
                    rotate_left
                    · intro w'
                      go_simp
                      first | with_reducible rfl | rfl
                    rotate_left
                    · simp only [Act.put, List.setIfInBounds_toArray, List.set_cons_zero, List.set_cons_succ, i64_w, i32_w]
                      rfl
                    refine pure_ (i := 12) (N := some 123) (v := ?_) (a' := ?_) #[true, true, true, true, true, true, true, true, true, true, false, true, true, false, false, false, false, false, false, false, false, false] rfl rfl (by kernel_rfl) (fun _ _ _ h => h) (Or.inl ⟨by rfl, ?_⟩) ?_ ?_
                    rotate_left
                    · intro w'
                      go_simp
                      first | with_reducible rfl | rfl
                    rotate_left
                    · simp only [Act.put, List.setIfInBounds_toArray, List.set_cons_zero, List.set_cons_succ, i64_w, i32_w]
                      rfl
                    refine pure_ (i := 13) (N := some 124) (v := ?_) (a' := ?_) #[true, true, true, true, true, true, true, true, true, true, false, true, true, true, false, false, false, false, false, false, false, false] rfl rfl (by kernel_rfl) (fun _ _ _ h => h) (Or.inl ⟨by rfl, ?_⟩) ?_ ?_
                    rotate_left
                    · intro w'
                      go_simp
                      first | with_reducible rfl | rfl
                    rotate_left
                    · simp only [Act.put, List.setIfInBounds_toArray, List.set_cons_zero, List.set_cons_succ, i64_w, i32_w]
                      rfl
                    refine pure_ (i := 14) (N := some 125) (v := ?_) (a' := ?_) #[true, true, true, true, true, true, true, true, true, true, false, true, true, true, true, false, false, false, false, false, false, false] rfl rfl (by kernel_rfl) (fun _ _ _ h => h) (Or.inl ⟨by rfl, ?_⟩) ?_ ?_
                    rotate_left
                    · intro w'
                      go_simp
                      first | with_reducible rfl | rfl
                    rotate_left
                    · simp only [Act.put, List.setIfInBounds_toArray, List.set_cons_zero, List.set_cons_succ, i64_w, i32_w]
                      rfl
                    refine last_ (i := 10) (N := some 121) #[true, true, true, true, true, true, true, true, true, true, true, true, true, true, true, false, false, false, false, false, false, false] rfl rfl (by kernel_rfl) (by decide) (fun K hK => ?_)
                    refine goes_ Try.func18 (by kernel_rfl) rfl #[.slice (some ⟨b2, k * 3, none⟩) (fe.length - k) (c6 - k)] (by rfl) rfl rfl (by (try simp only [List.map_toArray, List.map_cons, List.map_nil]); first | done | rfl) ?_
                    refine (plainN (l := fe.drop k) List.length_drop (rowAt (Sts.getRow (L1 := []) (HD.out.step (Below.refl _ _).drew)) hk n6.out.1 (.inr (congrArg some (add_plain b2 (k * 3)).symm))) n8.out n6.out.2.2.2.2).mono ?_
                    rintro e w7 ⟨A7, c7, rfl, hp7, hb7⟩
                    refine ⟨_, rfl, ?_⟩
                    have H7 := (HD.out.step (Below.refl _ _).drew).step hb7
                    replace H7 := Lib.hid H7
                    replace hp7 := Lib.hid hp7
                    clear hb7
                    refine hK.out _ _ ?_
                    clear hK K
                    refine norm_ (a' := ?_) ?_ ?_
                    rotate_left
                    · show Act.put _ (some 121) _ = _
                      simp only [Act.put, List.setIfInBounds_toArray, List.set_cons_zero, List.set_cons_succ, i64_w, i32_w]
                      rfl
                    refine last_ (i := 15) (N := some 126) #[true, true, true, true, true, true, true, true, true, true, true, true, true, true, true, true, false, false, false, false, false, false] rfl rfl (by kernel_rfl) (by decide) (fun K hK => ?_)
                    refine goes_ Try.func18 (by kernel_rfl) rfl #[.slice (some ⟨b1, 0, none⟩) (fl.length - (k + 1)) 0] (by rfl) rfl rfl (by (try simp only [List.map_toArray, List.map_cons, List.map_nil]); first | done | rfl) ?_
                    refine (plainN (l := fe.drop k) n4.out (by rw [hend.out.2]; exact rowAt (Sts.getRow (L1 := [(.row (.slice (some ⟨b2, 0, none⟩) fe.length c6), fe), (boxAt bj, [x])]) H7.out) hkl n6.out.2.1 (.inl n7.out)) n5.out n6.out.2.2.2.2).mono ?_
                    rintro e w8 ⟨A8, c8, rfl, hp8, hb8⟩
                    refine ⟨_, rfl, ?_⟩
                    have H8 := H7.out.step hb8
                    have hp9 := hp7.out.step hb8
                    replace H8 := Lib.hid H8
                    replace hp8 := Lib.hid hp8
                    replace hp9 := Lib.hid hp9
                    clear hb8
                    refine hK.out _ _ ?_
                    clear hK K
                    refine norm_ (a' := ?_) ?_ ?_
                    rotate_left
                    · show Act.put _ (some 126) _ = _
                      simp only [Act.put, List.setIfInBounds_toArray, List.set_cons_zero, List.set_cons_succ, i64_w, i32_w]
                      rfl
                    refine last_ (i := 16) (N := some 127) #[true, true, true, true, true, true, true, true, true, true, true, true, true, true, true, true, true, false, false, false, false, false] rfl rfl (by kernel_rfl) (by decide) (fun K hK => ?_)
                    refine goes_ Try.func17 (by kernel_rfl) rfl #[.slice A7 (fe.drop k).length c7, .slice A8 (fe.drop k).length c8] (by rfl) rfl rfl (by (try simp only [List.map_toArray, List.map_cons, List.map_nil]); first | done | rfl) ?_
                    refine (sameC hp9.out hp8.out n6.out.2.2.2.2).mono ?_
                    rintro e w9 ⟨rfl, hb9⟩
                    refine ⟨_, rfl, ?_⟩
                    have H9 := H8.out.step hb9
                    replace H9 := Lib.hid H9
                    clear hb9
                    refine hK.out _ _ ?_
                    clear hK K
                    refine norm_ (a' := ?_) ?_ ?_
                    rotate_left
                    · show Act.put _ (some 127) _ = _
                      simp only [Act.put, List.setIfInBounds_toArray, List.set_cons_zero, List.set_cons_succ, i64_w, i32_w]
                      rfl
                    refine pure_ (i := 17) (N := some 128) (v := ?_) (a' := ?_) #[true, true, true, true, true, true, true, true, true, true, true, true, true, true, true, true, true, true, false, false, false, false] rfl rfl (by kernel_rfl) (fun _ _ _ h => h) (Or.inl ⟨by rfl, ?_⟩) ?_ ?_
                    rotate_left
                    · intro w'
                      go_simp
                      first | with_reducible rfl | rfl
                    rotate_left
                    · simp only [Act.put, List.setIfInBounds_toArray, List.set_cons_zero, List.set_cons_succ, i64_w, i32_w]
                      rfl
                    refine pure_ (i := 18) (N := some 129) (v := ?_) (a' := ?_) #[true, true, true, true, true, true, true, true, true, true, true, true, true, true, true, true, true, true, true, false, false, false] rfl rfl (by kernel_rfl) (fun _ _ _ h => h) (Or.inl ⟨by rfl, ?_⟩) ?_ ?_
                    rotate_left
                    · intro w'
                      go_simp
                      first | with_reducible rfl | rfl
                    rotate_left
                    · simp only [Act.put, List.setIfInBounds_toArray, List.set_cons_zero, List.set_cons_succ, i64_w, i32_w]
                      rfl
                    refine last_ (i := 19) (N := some 130) #[true, true, true, true, true, true, true, true, true, true, true, true, true, true, true, true, true, true, true, true, false, false] rfl rfl (by kernel_rfl) (by decide) (fun K hK => ?_)
                    refine goes_ Try.func22 (by kernel_rfl) rfl #[] (by rfl) rfl rfl (by (try simp only [List.map_toArray, List.map_cons, List.map_nil]); first | done | rfl) ?_
                    refine (known_walk _).mono ?_
                    rintro e w10 ⟨rfl, hb10⟩
                    refine ⟨_, rfl, ?_⟩
                    have HZ := H9.out.below.trans (hb10.mono H9.out.size)
                    replace HZ := Lib.hid HZ
                    clear hb10
                    refine hK.out _ _ ?_
                    clear hK K
                    refine norm_ (a' := ?_) ?_ ?_
                    rotate_left
                    · show Act.put _ (some 130) _ = _
                      simp only [Act.put, List.setIfInBounds_toArray, List.set_cons_zero, List.set_cons_succ, i64_w, i32_w]
                      rfl
                    refine pure_ (i := 20) (N := some 131) (v := ?_) (a' := ?_) #[true, true, true, true, true, true, true, true, true, true, true, true, true, true, true, true, true, true, true, true, true, false] rfl rfl (by kernel_rfl) (fun _ _ _ h => h) (Or.inl ⟨by rfl, ?_⟩) ?_ ?_
                    rotate_left
                    · intro w'
                      go_simp
                      first | with_reducible rfl | rfl
                    rotate_left
                    · simp only [Act.put, List.setIfInBounds_toArray, List.set_cons_zero, List.set_cons_succ, i64_w, i32_w]
                      rfl
                    refine pure_ (i := 21) (N := some 6) (v := ?_) (a' := ?_) #[true, true, true, true, true, true, true, true, true, true, true, true, true, true, true, true, true, true, true, true, true, true] rfl rfl (by kernel_rfl) (fun _ _ _ h => h) (Or.inl ⟨by rfl, ?_⟩) ?_ ?_
                    rotate_left
                    · intro w'
                      go_simp
                      first | with_reducible rfl | rfl
                    rotate_left
                    · simp only [Act.put, List.setIfInBounds_toArray, List.set_cons_zero, List.set_cons_succ, i64_w, i32_w]
                      rfl
                    refine done_ (by kernel_rfl) ?_
                    go_wp2_with fail
                    go_ret
                    exact ⟨rfl, HZ.out⟩
                  · have hcn : ¬ c3 = k + 1 := Nat.ne_of_gt hcc
                    have n5 : fl.length - (k + 1) ≤ c3 - (k + 1) := by omega
                    replace n5 := Lib.hid n5
                    obtain ⟨x1, x2, x3, x4, x5⟩ := idx_facts k fl.length hkl hkb2
                    refine start_ (n := 22) (S := fun w' => (w'.cell? ⟨b1, k * 3, none⟩ = some (.int .i64 x.f0) ∧ w'.cell? ⟨b1, k * 3 + 1, none⟩ = some (.int .i64 x.f1) ∧ w'.cell? ⟨b1, k * 3 + 2, none⟩ = some (.int .i64 x.f2)) ∧ w'.cell? ⟨bj, 0, none⟩ = some (.int .i64 x.f0) ∧ w'.cell? ⟨bj, 1, none⟩ = some (.int .i64 x.f1) ∧ w'.cell? ⟨bj, 2, none⟩ = some (.int .i64 x.f2)) (ds := [10, 15, 16, 19]) #[false, false, false, false, false, false, false, false, false, false, false, false, false, false, false, false, false, false, false, false, false, false] (by kernel_rfl) rfl rfl ⟨⟨c0, c1, c2⟩, d0, d1, d2⟩ (fun hHeld => ?_)
                    refine pure_ (i := 0) (N := some 111) (v := ?_) (a' := ?_) #[true, false, false, false, false, false, false, false, false, false, false, false, false, false, false, false, false, false, false, false, false, false] rfl rfl (by kernel_rfl) (fun _ _ _ h => h) (Or.inl ⟨by rfl, ?_⟩) ?_ ?_
                    rotate_left
                    · intro w'
                      go_simp
                      first | with_reducible rfl | rfl
                    rotate_left
                    · simp only [Act.put, List.setIfInBounds_toArray, List.set_cons_zero, List.set_cons_succ, i64_w, i32_w]
                      rfl
                    refine pure_ (i := 1) (N := some 112) (v := ?_) (a' := ?_) #[true, true, false, false, false, false, false, false, false, false, false, false, false, false, false, false, false, false, false, false, false, false] rfl rfl (by kernel_rfl) (fun _ _ _ h => h) (Or.inl ⟨by rfl, ?_⟩) ?_ ?_
                    rotate_left
                    · intro w'
                      go_simp
                      first | with_reducible rfl | rfl
                    rotate_left
                    · simp only [Act.put, List.setIfInBounds_toArray, List.set_cons_zero, List.set_cons_succ, i64_w, i32_w]
                      rfl
                    refine pure_ (i := 2) (N := some 113) (v := ?_) (a' := ?_) #[true, true, true, false, false, false, false, false, false, false, false, false, false, false, false, false, false, false, false, false, false, false] rfl rfl (by kernel_rfl) (fun _ _ _ h => h) (Or.inl ⟨by rfl, ?_⟩) ?_ ?_
                    rotate_left
                    · intro w'
                      go_simp
                      first | with_reducible rfl | rfl
                    rotate_left
                    · simp only [Act.put, List.setIfInBounds_toArray, List.set_cons_zero, List.set_cons_succ, i64_w, i32_w]
                      rfl
                    refine take_ (i := 3) (N := some 114) (v := ?_) (a' := ?_) #[true, true, true, true, false, false, false, false, false, false, false, false, false, false, false, false, false, false, false, false, false, false] rfl rfl (by kernel_rfl) (fun _ _ _ h => h) (Or.inl ⟨by rfl, ?_⟩) hHeld ?_ ?_
                    rotate_left
                    · rintro w' ⟨⟨s0, s1, s2⟩, s3, s4, s5⟩
                      go_simp
                      first | with_reducible rfl | rfl
                    rotate_left
                    · simp only [Act.put, List.setIfInBounds_toArray, List.set_cons_zero, List.set_cons_succ, i64_w, i32_w]
                      rfl
                    refine take_ (i := 4) (N := some 115) (v := ?_) (a' := ?_) #[true, true, true, true, true, false, false, false, false, false, false, false, false, false, false, false, false, false, false, false, false, false] rfl rfl (by kernel_rfl) (fun _ _ _ h => h) (Or.inl ⟨by rfl, ?_⟩) hHeld ?_ ?_
                    rotate_left
                    · rintro w' ⟨⟨s0, s1, s2⟩, s3, s4, s5⟩
                      go_simp
                      first | with_reducible rfl | rfl
                    rotate_left
                    · simp only [Act.put, List.setIfInBounds_toArray, List.set_cons_zero, List.set_cons_succ, i64_w, i32_w]
                      rfl
                    refine pure_ (i := 5) (N := some 116) (v := ?_) (a' := ?_) #[true, true, true, true, true, true, false, false, false, false, false, false, false, false, false, false, false, false, false, false, false, false] rfl rfl (by kernel_rfl) (fun _ _ _ h => h) (Or.inl ⟨by rfl, ?_⟩) ?_ ?_
                    rotate_left
                    · intro w'
                      go_simp
                      first | with_reducible rfl | rfl
                    rotate_left
                    · simp only [Act.put, List.setIfInBounds_toArray, List.set_cons_zero, List.set_cons_succ, i64_w, i32_w]
                      rfl
                    refine pure_ (i := 6) (N := some 117) (v := ?_) (a' := ?_) #[true, true, true, true, true, true, true, false, false, false, false, false, false, false, false, false, false, false, false, false, false, false] rfl rfl (by kernel_rfl) (fun _ _ _ h => h) (Or.inl ⟨by rfl, ?_⟩) ?_ ?_
                    rotate_left
                    · intro w'
                      go_simp
                      first | with_reducible rfl | rfl
                    rotate_left
                    · simp only [Act.put, List.setIfInBounds_toArray, List.set_cons_zero, List.set_cons_succ, i64_w, i32_w]
                      rfl
                    refine pure_ (i := 7) (N := some 118) (v := ?_) (a' := ?_) #[true, true, true, true, true, true, true, true, false, false, false, false, false, false, false, false, false, false, false, false, false, false] rfl rfl (by kernel_rfl) (fun _ _ _ h => h) (Or.inl ⟨by rfl, ?_⟩) ?_ ?_
                    rotate_left
                    · intro w'
                      go_simp
                      first | with_reducible rfl | rfl
                    rotate_left
                    · simp only [Act.put, List.setIfInBounds_toArray, List.set_cons_zero, List.set_cons_succ, i64_w, i32_w]
                      rfl
                    refine pure_ (i := 8) (N := some 119) (v := ?_) (a' := ?_) #[true, true, true, true, true, true, true, true, true, false, false, false, false, false, false, false, false, false, false, false, false, false] rfl rfl (by kernel_rfl) (fun _ _ _ h => h) (Or.inl ⟨by rfl, ?_⟩) ?_ ?_
                    rotate_left
                    · intro w'
                      go_simp
                      first | with_reducible rfl | rfl
                    rotate_left
                    · simp only [Act.put, List.setIfInBounds_toArray, List.set_cons_zero, List.set_cons_succ, i64_w, i32_w]
                      rfl
                    refine pure_ (i := 9) (N := some 120) (v := ?_) (a' := ?_) #[true, true, true, true, true, true, true, true, true, true, false, false, false, false, false, false, false, false, false, false, false, false] rfl rfl (by kernel_rfl) (fun _ _ _ h => h) (Or.inl ⟨by rfl, ?_⟩) ?_ ?_
                    rotate_left
                    · intro w'
                      go_simp
                      first | with_reducible rfl | rfl
                    rotate_left
                    · simp only [Act.put, List.setIfInBounds_toArray, List.set_cons_zero, List.set_cons_succ, i64_w, i32_w]
                      rfl
                    refine pure_ (i := 11) (N := some 122) (v := ?_) (a' := ?_) #[true, true, true, true, true, true, true, true, true, true, false, true, false, false, false, false, false, false, false, false, false, false] rfl rfl (by kernel_rfl) (fun _ _ _ h => h) (Or.inl ⟨by rfl, ?_⟩) ?_ ?_
                    rotate_left
                    · intro w'
                      go_simp
                      first | with_reducible rfl | rfl
                    rotate_left
                    · simp only [Act.put, List.setIfInBounds_toArray, List.set_cons_zero, List.set_cons_succ, i64_w, i32_w]
                      rfl
                    refine pure_ (i := 12) (N := some 123) (v := ?_) (a' := ?_) #[true, true, true, true, true, true, true, true, true, true, false, true, true, false, false, false, false, false, false, false, false, false] rfl rfl (by kernel_rfl) (fun _ _ _ h => h) (Or.inl ⟨by rfl, ?_⟩) ?_ ?_
                    rotate_left
                    · intro w'
                      go_simp
                      first | with_reducible rfl | rfl
                    rotate_left
                    · simp only [Act.put, List.setIfInBounds_toArray, List.set_cons_zero, List.set_cons_succ, i64_w, i32_w]
                      rfl
                    refine pure_ (i := 13) (N := some 124) (v := ?_) (a' := ?_) #[true, true, true, true, true, true, true, true, true, true, false, true, true, true, false, false, false, false, false, false, false, false] rfl rfl (by kernel_rfl) (fun _ _ _ h => h) (Or.inl ⟨by rfl, ?_⟩) ?_ ?_
                    rotate_left
                    · intro w'
                      go_simp
                      first | with_reducible rfl | rfl
                    rotate_left
                    · simp only [Act.put, List.setIfInBounds_toArray, List.set_cons_zero, List.set_cons_succ, i64_w, i32_w]
                      rfl
                    refine pure_ (i := 14) (N := some 125) (v := ?_) (a' := ?_) #[true, true, true, true, true, true, true, true, true, true, false, true, true, true, true, false, false, false, false, false, false, false] rfl rfl (by kernel_rfl) (fun _ _ _ h => h) (Or.inl ⟨by rfl, ?_⟩) ?_ ?_
                    rotate_left
                    · intro w'
                      go_simp
                      first | with_reducible rfl | rfl
                    rotate_left
                    · simp only [Act.put, List.setIfInBounds_toArray, List.set_cons_zero, List.set_cons_succ, i64_w, i32_w]
                      rfl
                    refine last_ (i := 10) (N := some 121) #[true, true, true, true, true, true, true, true, true, true, true, true, true, true, true, false, false, false, false, false, false, false] rfl rfl (by kernel_rfl) (by decide) (fun K hK => ?_)
                    refine goes_ Try.func18 (by kernel_rfl) rfl #[.slice (some ⟨b2, k * 3, none⟩) (fe.length - k) (c6 - k)] (by rfl) rfl rfl (by (try simp only [List.map_toArray, List.map_cons, List.map_nil]); first | done | rfl) ?_
                    refine (plainN (l := fe.drop k) List.length_drop (rowAt (Sts.getRow (L1 := []) (HD.out.step (Below.refl _ _).drew)) hk n6.out.1 (.inr (congrArg some (add_plain b2 (k * 3)).symm))) n8.out n6.out.2.2.2.2).mono ?_
                    rintro e w7 ⟨A7, c7, rfl, hp7, hb7⟩
                    refine ⟨_, rfl, ?_⟩
                    have H7 := (HD.out.step (Below.refl _ _).drew).step hb7
                    replace H7 := Lib.hid H7
                    replace hp7 := Lib.hid hp7
                    clear hb7
                    refine hK.out _ _ ?_
                    clear hK K
                    refine norm_ (a' := ?_) ?_ ?_
                    rotate_left
                    · show Act.put _ (some 121) _ = _
                      simp only [Act.put, List.setIfInBounds_toArray, List.set_cons_zero, List.set_cons_succ, i64_w, i32_w]
                      rfl
                    refine last_ (i := 15) (N := some 126) #[true, true, true, true, true, true, true, true, true, true, true, true, true, true, true, true, false, false, false, false, false, false] rfl rfl (by kernel_rfl) (by decide) (fun K hK => ?_)
                    refine goes_ Try.func18 (by kernel_rfl) rfl #[.slice (some ⟨b1, (k + 1) * 3, none⟩) (fl.length - (k + 1)) (c3 - (k + 1))] (by rfl) rfl rfl (by (try simp only [List.map_toArray, List.map_cons, List.map_nil]); first | done | rfl) ?_
                    refine (plainN (l := fe.drop k) n4.out (by rw [hend.out.2]; exact rowAt (Sts.getRow (L1 := [(.row (.slice (some ⟨b2, 0, none⟩) fe.length c6), fe), (boxAt bj, [x])]) H7.out) hkl n6.out.2.1 (.inr (congrArg some (add_plain b1 ((k + 1) * 3)).symm))) n5.out n6.out.2.2.2.2).mono ?_
                    rintro e w8 ⟨A8, c8, rfl, hp8, hb8⟩
                    refine ⟨_, rfl, ?_⟩
                    have H8 := H7.out.step hb8
                    have hp9 := hp7.out.step hb8
                    replace H8 := Lib.hid H8
                    replace hp8 := Lib.hid hp8
                    replace hp9 := Lib.hid hp9
                    clear hb8
                    refine hK.out _ _ ?_
                    clear hK K
                    refine norm_ (a' := ?_) ?_ ?_
                    rotate_left
                    · show Act.put _ (some 126) _ = _
                      simp only [Act.put, List.setIfInBounds_toArray, List.set_cons_zero, List.set_cons_succ, i64_w, i32_w]
                      rfl
                    refine last_ (i := 16) (N := some 127) #[true, true, true, true, true, true, true, true, true, true, true, true, true, true, true, true, true, false, false, false, false, false] rfl rfl (by kernel_rfl) (by decide) (fun K hK => ?_)
                    refine goes_ Try.func17 (by kernel_rfl) rfl #[.slice A7 (fe.drop k).length c7, .slice A8 (fe.drop k).length c8] (by rfl) rfl rfl (by (try simp only [List.map_toArray, List.map_cons, List.map_nil]); first | done | rfl) ?_
                    refine (sameC hp9.out hp8.out n6.out.2.2.2.2).mono ?_
                    rintro e w9 ⟨rfl, hb9⟩
                    refine ⟨_, rfl, ?_⟩
                    have H9 := H8.out.step hb9
                    replace H9 := Lib.hid H9
                    clear hb9
                    refine hK.out _ _ ?_
                    clear hK K
                    refine norm_ (a' := ?_) ?_ ?_
                    rotate_left
                    · show Act.put _ (some 127) _ = _
                      simp only [Act.put, List.setIfInBounds_toArray, List.set_cons_zero, List.set_cons_succ, i64_w, i32_w]
                      rfl
                    refine pure_ (i := 17) (N := some 128) (v := ?_) (a' := ?_) #[true, true, true, true, true, true, true, true, true, true, true, true, true, true, true, true, true, true, false, false, false, false] rfl rfl (by kernel_rfl) (fun _ _ _ h => h) (Or.inl ⟨by rfl, ?_⟩) ?_ ?_
                    rotate_left
                    · intro w'
                      go_simp
                      first | with_reducible rfl | rfl
                    rotate_left
                    · simp only [Act.put, List.setIfInBounds_toArray, List.set_cons_zero, List.set_cons_succ, i64_w, i32_w]
                      rfl
                    refine pure_ (i := 18) (N := some 129) (v := ?_) (a' := ?_) #[true, true, true, true, true, true, true, true, true, true, true, true, true, true, true, true, true, true, true, false, false, false] rfl rfl (by kernel_rfl) (fun _ _ _ h => h) (Or.inl ⟨by rfl, ?_⟩) ?_ ?_
                    rotate_left
                    · intro w'
                      go_simp
                      first | with_reducible rfl | rfl
                    rotate_left
                    · simp only [Act.put, List.setIfInBounds_toArray, List.set_cons_zero, List.set_cons_succ, i64_w, i32_w]
                      rfl
                    refine last_ (i := 19) (N := some 130) #[true, true, true, true, true, true, true, true, true, true, true, true, true, true, true, true, true, true, true, true, false, false] rfl rfl (by kernel_rfl) (by decide) (fun K hK => ?_)
                    refine goes_ Try.func22 (by kernel_rfl) rfl #[] (by rfl) rfl rfl (by (try simp only [List.map_toArray, List.map_cons, List.map_nil]); first | done | rfl) ?_
                    refine (known_walk _).mono ?_
                    rintro e w10 ⟨rfl, hb10⟩
                    refine ⟨_, rfl, ?_⟩
                    have HZ := H9.out.below.trans (hb10.mono H9.out.size)
                    replace HZ := Lib.hid HZ
                    clear hb10
                    refine hK.out _ _ ?_
                    clear hK K
                    refine norm_ (a' := ?_) ?_ ?_
                    rotate_left
                    · show Act.put _ (some 130) _ = _
                      simp only [Act.put, List.setIfInBounds_toArray, List.set_cons_zero, List.set_cons_succ, i64_w, i32_w]
                      rfl
                    refine pure_ (i := 20) (N := some 131) (v := ?_) (a' := ?_) #[true, true, true, true, true, true, true, true, true, true, true, true, true, true, true, true, true, true, true, true, true, false] rfl rfl (by kernel_rfl) (fun _ _ _ h => h) (Or.inl ⟨by rfl, ?_⟩) ?_ ?_
                    rotate_left
                    · intro w'
                      go_simp
                      first | with_reducible rfl | rfl
                    rotate_left
                    · simp only [Act.put, List.setIfInBounds_toArray, List.set_cons_zero, List.set_cons_succ, i64_w, i32_w]
                      rfl
                    refine pure_ (i := 21) (N := some 6) (v := ?_) (a' := ?_) #[true, true, true, true, true, true, true, true, true, true, true, true, true, true, true, true, true, true, true, true, true, true] rfl rfl (by kernel_rfl) (fun _ _ _ h => h) (Or.inl ⟨by rfl, ?_⟩) ?_ ?_
                    rotate_left
                    · intro w'
                      go_simp
                      first | with_reducible rfl | rfl
                    rotate_left
                    · simp only [Act.put, List.setIfInBounds_toArray, List.set_cons_zero, List.set_cons_succ, i64_w, i32_w]
                      rfl
                    refine done_ (by kernel_rfl) ?_
                    go_wp2_with fail
                    go_ret
                    exact ⟨rfl, HZ.out⟩
        · have hz : mxp fl = 0 := by have := mxp_nonneg fl; omega
          have hno : (places fl (mxp fl)).length = 0 := by rw [mxp_zero hgood.out hz]; rfl
          have d2 : (mxp fl == 0) = true := beq_iff_eq.mpr hz
          replace hno := Lib.hid hno
          clear hz
          go_wp2_with fail
          refine (takeNoS (L1 := [(.row (.slice A3 fl.length c3), fl)]) (L2 := []) H4.out (by omega) a p (.inl hno.out)).mono ?_
          rintro e w5 ⟨rfl, H5⟩
          have H5b : Sts w _ [(boxAt w5.heap.size, [⟨0, 0, 0⟩]), (.row (.slice A3 fl.length c3), fl), (.set g, fl)] := H5.addBox 0 0 0
          replace H5b := Lib.hid H5b
          clear H5
          go_wp2_with fail
          refine (allS (L1 := [(boxAt w5.heap.size, [⟨0, 0, 0⟩]), (.row (.slice A3 fl.length c3), fl)]) (L2 := []) H5b.out (by omega)).mono ?_
          rintro e w6 ⟨A6, c6, hc6, rfl, H6⟩
          obtain ⟨k0, k1, k2⟩ := Sts.box (L1 := [(.row (.slice A6 fl.length c6), fl)]) H6
          dsimp only at k0 k1 k2
          replace H6 := Lib.hid H6
          go_wp2_with fail
          refine (plainC (row_all (Sts.getRow (L1 := []) H6.out) (by omega)) hc6 (by omega)).mono ?_
          rintro e w7 ⟨A7, c7, rfl, hp7, hb7⟩
          have H7 := H6.out.step hb7
          replace H7 := Lib.hid H7
          replace hp7 := Lib.hid hp7
          clear hb7
          go_wp2_with fail
          refine (plainC (row_all (Sts.getRow (L1 := [(.row (.slice A6 fl.length c6), fl), (boxAt w5.heap.size, [⟨0, 0, 0⟩])]) H7.out) (by omega)) hc3 (by omega)).mono ?_
          rintro e w8 ⟨A8, c8, rfl, hp8, hb8⟩
          have H8 := H7.out.step hb8
          have hp9 := hp7.out.step hb8
          replace H8 := Lib.hid H8
          replace hp8 := Lib.hid hp8
          replace hp9 := Lib.hid hp9
          clear hb8
          go_wp2_with fail
          refine (sameC hp9.out hp8.out (by omega)).mono ?_
          rintro e w9 ⟨rfl, hb9⟩
          have H9 := H8.out.step hb9
          replace H9 := Lib.hid H9
          clear hb9
          go_wp2_with fail
          refine (known_walk _).mono ?_
          rintro e wk ⟨rfl, hb⟩
          have HZ := H9.out.below.trans (hb.mono H9.out.size)
          replace HZ := Lib.hid HZ
          clear hb
          go_wp2_with fail
          go_ret
          exact ⟨rfl, HZ.out⟩
theorem above_any (A : Option Addr) (c : Nat) (l : List S30) (a p : Int) (w : World) (hr : Kd.C k30 w A l.length l) : Calls Try.prog 5 #[.slice A l.length c, .int .i64 a, .int .i64 p] w fun e w' => e = .returned (.bool true) ∧ Below w.heap.size w w' := by
  by_cases h : 60 < l.length
  · exact above_big A c l a p w h
  · exact above_walk A c l a p w (by omega) hr
end Go.Proofs.Ytojdbpeaclnmkaa.Rd
