/- ReadyPicks: a pick, and one more by as many as there are of the best, take the same. -/
import Derived.Test.YtojdbpeaclnmkaaRdSame
set_option linter.unusedVariables false
set_option linter.unusedSimpArgs false
namespace Go.Proofs.Ytojdbpeaclnmkaa.Rd
open Go Go.RowKit Go.Proofs.YtojdbpeaclnmkaaW.PrintWords Go.Proofs.YtojdbpeaclnmkaaW.PrintLast Go.Proofs.YtojdbpeaclnmkaaW.PrintMore Go.Proofs.Ytojdbpeaclnmkaa Go.Proofs.Ytojdbpeaclnmkaa.Print
attribute [local go_sem] max2_int min2_int max_two min_two
def PutRel (w : World) (g : Nat) (l : List S30) (vi : Value) (wr : World) : Prop := ∃ k : Nat, k ≤ l.length ∧ vi = .int .i64 k ∧ Sts w wr [(.set g, filt (l.take k))]
theorem RowIs.elem {w : World} {B c : Nat} {A : Option Addr} {l : List S30} (h : RowIs w B (.slice A l.length c) l) (hl : l.length ≤ 1000000) (j : Nat) (hj : j < l.length) :
    ∃ b, A = some ⟨b, 0, none⟩ ∧ b < w.heap.size ∧ w.cell? ⟨b, j * 3, none⟩ = some (.int .i64 (l.getD j z30).f0) ∧ w.cell? ⟨b, j * 3 + 1, none⟩ = some (.int .i64 (l.getD j z30).f1) ∧ w.cell? ⟨b, j * 3 + 2, none⟩ = some (.int .i64 (l.getD j z30).f2) := by
  obtain ⟨ad, h1, hlt, h2, h3, h4⟩ := elemAt (row_all h hl) j hj
  obtain ⟨_, h5⟩ := id h
  rcases h5 with ⟨h6, h7⟩ | ⟨b, cap, cur, h6, _⟩
  · omega
  · injection h6 with h6 _ _
    subst h6
    have e : ad = ⟨b, 0, none⟩ := (Option.some.inj h1).symm
    subst e
    rw [add_plain] at h2 h3 h4
    exact ⟨b, rfl, hlt, h2, h3, h4⟩
def CountRel (w : World) (g : Nat) (A : Option Addr) (c : Nat) (fl : List S30) (vm vi : Value) (wr : World) : Prop := ∃ k : Nat, k ≤ fl.length ∧ vi = .int .i64 k ∧ vm = .int .i64 ((placesFrom (mxp fl) 0 (fl.take k)).length : Int) ∧ Sts w wr [(.row (.slice A fl.length c), fl), (.set g, fl)]
set_option maxRecDepth 100000 in
set_option maxHeartbeats 4000000 in
theorem picks_walk (A : Option Addr) (c : Nat) (l : List S30) (p : Int) (w : World) (hl0 : 1 ≤ l.length) (hl : l.length ≤ 60) (hp1 : -1000000 ≤ p) (hp2 : p ≤ 1000000) (hr : Kd.C k30 w A l.length l) : Calls Try.prog 7 #[.slice A l.length c, .int .i64 p] w fun e w' => e = .returned (.bool true) ∧ Below w.heap.size w w' := by
  have e1 : decide ((60 : Int) < (l.length : Int)) = false := decide_eq_false (by omega)
  have e2 : decide ((l.length : Int) < 1) = false := decide_eq_false (by omega)
  have e3 : decide (p < -1000000) = false := decide_eq_false (by omega)
  have e4 : decide (1000000 < p) = false := decide_eq_false (by omega)
  have H0 : Sts w w [] := Sts.empty (Below.refl _ _)
  replace H0 := Lib.hid H0
  have HR := Lib.hid hr
  have HL := Lib.hid hl
  clear hr hl hl0
  go_enter Try.func7, Try.ntmps7
  go_wp2_with fail
  refine (newS H0.out).mono ?_
  rintro e w1 ⟨g, rfl, H1⟩
  replace H1 := Lib.hid H1
  go_wp2_with fail
  go_loopw [6] (fun vi wr => PutRel w g l vi wr) (fun vi _ => l.length - (intOf vi).toNat)
  case atStart => exact ⟨0, Nat.zero_le _, rfl, H1.out⟩
  case round =>
    obtain ⟨k, hk, rfl, HS⟩ := hrel
    replace HS := Lib.hid HS
    by_cases hlk : k < l.length
    · obtain ⟨ad, rfl, c0, c1, c2, hab⟩ := elemIn HR.out HS.out.below k hlk
      have hkb : k < 60 := Nat.lt_of_lt_of_le hlk HL.out
      have hlk' : (k : Int) < (l.length : Int) := by omega
      have hfs := filt_snoc (l.take k) (l.getD k z30)
      rw [← take_snoc l k hlk] at hfs
      have hlen : (filt (l.take k)).length < 10000 := by have := filt_len (l.take k); simp at this; omega
      generalize hx : l.getD k z30 = x at *
      replace hx := Lib.hid hx
      replace hfs := Lib.hid hfs
      replace hlen := Lib.hid hlen
      by_cases ho : okJob x = true
      · have ho2 : 1 ≤ x.f1 ∧ x.f1 ≤ 100 := by simpa [okJob] using ho
        have hnext : filt (l.take (k + 1)) = filt (l.take k) ++ [x] := by rw [hfs.out, if_pos ho]
        replace hnext := Lib.hid hnext
        replace ho2 := Lib.hid ho2
        clear ho
        go_wp2_with fail
        refine (putS (L1 := []) (L2 := []) HS.out x.f0 x.f1 x.f2 ho2.out.1 ho2.out.2 hlen.out).mono ?_
        rintro e w2 ⟨rfl, H2⟩
        have hnx : Sts w w2 [(.set g, filt (l.take (k + 1)))] := by rw [hnext.out]; exact H2
        replace hnx := Lib.hid hnx
        clear H2
        go_wp2_with fail
        go_roundw
        case rel => exact ⟨k + 1, by omega, by go_num, hnx.out⟩
        case measure => simp [intOf]; omega
      · have ho2 : x.f1 < 1 ∨ 100 < x.f1 := by
          have h3 : ¬ (1 ≤ x.f1 ∧ x.f1 ≤ 100) := by simpa [okJob] using ho
          omega
        have hnext : filt (l.take (k + 1)) = filt (l.take k) := by rw [hfs.out, if_neg ho, List.append_nil]
        replace hnext := Lib.hid hnext
        replace ho2 := Lib.hid ho2
        clear ho
        go_wp2_with fail
        refine (putNo HS.out x.f0 x.f1 x.f2 ho2.out g).mono ?_
        rintro e w2 ⟨rfl, H2⟩
        have hnx : Sts w w2 [(.set g, filt (l.take (k + 1)))] := by rw [hnext.out]; exact H2
        replace hnx := Lib.hid hnx
        clear H2
        go_wp2_with fail
        go_roundw
        case rel => exact ⟨k + 1, by omega, by go_num, hnx.out⟩
        case measure => simp [intOf]; omega
    · have e0 : ¬ ((k : Int) < (l.length : Int)) := by omega
      obtain rfl : k = l.length := by omega
      rw [List.take_length] at HS
      have hfl : (filt l).length ≤ 60 := Nat.le_trans (filt_len l) HL.out
      have hgood := filt_good l
      generalize filt l = fl at *
      replace hgood := Lib.hid hgood
      clear hk hlk
      go_wp2_with fail
      refine (allS (L1 := []) (L2 := []) HS.out (by omega)).mono ?_
      rintro e w3 ⟨A3, c3, hc3, rfl, H3⟩
      replace H3 := Lib.hid H3
      go_wp2_with fail
      go_loopw [7, 9] (fun vm vi wr => CountRel w g A3 c3 fl vm vi wr) (fun _ vi _ => fl.length - (intOf vi).toNat)
      case atStart => exact ⟨0, Nat.zero_le _, rfl, rfl, H3.out⟩
      case round =>
        obtain ⟨k, hk, rfl, rfl, HC⟩ := hrel
        replace HC := Lib.hid HC
        by_cases hlk : k < fl.length
        · obtain ⟨b, rfl, hbl, c0, c1, c2⟩ := RowIs.elem (Sts.getRow (L1 := []) HC.out) (by omega) k hlk
          have hlk' : (k : Int) < (fl.length : Int) := by omega
          have hps := placesFrom_snoc (mxp fl) (fl.getD k z30) (fl.take k) 0
          rw [← take_snoc fl k hlk] at hps
          have hpl := placesFrom_len (mxp fl) (fl.take k) 0
          rw [show (fl.take k).length = k by simp; omega] at hpl
          generalize hx : fl.getD k z30 = x at *
          generalize hM : mxp fl = M at *
          generalize hP : placesFrom M 0 (fl.take k) = P at *
          replace hx := Lib.hid hx
          replace hM := Lib.hid hM
          replace hP := Lib.hid hP
          replace hps := Lib.hid hps
          have hkb : k < 60 := Nat.lt_of_lt_of_le hlk hfl
          rcases Decidable.em (x.f1 = M) with hxm | hxm
          · have e5 : (x.f1 == M) = true := beq_iff_eq.mpr hxm
            have hcnt : ((P.length : Int) + 1) = ((placesFrom M 0 (fl.take (k + 1))).length : Int) := by rw [hps.out, if_pos hxm, List.length_append]; simp
            replace hxm := Lib.hid hxm
            replace hcnt := Lib.hid hcnt
            go_wp2_with fail
            refine start_ (n := 8) (S := fun w' => w'.cell? ⟨b, k * 3 + 1, none⟩ = some (.int .i64 x.f1)) (ds := []) #[false, false, false, false, false, false, false, false] (by kernel_rfl) rfl rfl (by go_simp) (fun hHeld => ?_)
            refine pure_ (i := 0) (N := some 64) (v := ?_) (a' := ?_) #[true, false, false, false, false, false, false, false] rfl rfl (by kernel_rfl) (fun _ _ _ h => h) (Or.inl ⟨by rfl, ?_⟩) ?_ ?_
            rotate_left
            · intro w'
              go_simp
              first | with_reducible rfl | rfl
            rotate_left
            · simp only [Act.put, List.setIfInBounds_toArray, List.set_cons_zero, List.set_cons_succ, i64_w, i32_w]
              rfl
            refine pure_ (i := 1) (N := some 65) (v := ?_) (a' := ?_) #[true, true, false, false, false, false, false, false] rfl rfl (by kernel_rfl) (fun _ _ _ h => h) (Or.inl ⟨by rfl, ?_⟩) ?_ ?_
            rotate_left
            · intro w'
              go_simp
              first | with_reducible rfl | rfl
            rotate_left
            · simp only [Act.put, List.setIfInBounds_toArray, List.set_cons_zero, List.set_cons_succ, i64_w, i32_w]
              rfl
            refine pure_ (i := 2) (N := some 66) (v := ?_) (a' := ?_) #[true, true, true, false, false, false, false, false] rfl rfl (by kernel_rfl) (fun _ _ _ h => h) (Or.inl ⟨by rfl, ?_⟩) ?_ ?_
            rotate_left
            · intro w'
              go_simp
              first | with_reducible rfl | rfl
            rotate_left
            · simp only [Act.put, List.setIfInBounds_toArray, List.set_cons_zero, List.set_cons_succ, i64_w, i32_w]
              rfl
            refine pure_ (i := 3) (N := some 67) (v := ?_) (a' := ?_) #[true, true, true, true, false, false, false, false] rfl rfl (by kernel_rfl) (fun _ _ _ h => h) (Or.inl ⟨by rfl, ?_⟩) ?_ ?_
            rotate_left
            · intro w'
              go_simp
              first | with_reducible rfl | rfl
            rotate_left
            · simp only [Act.put, List.setIfInBounds_toArray, List.set_cons_zero, List.set_cons_succ, i64_w, i32_w]
              rfl
            refine take_ (i := 4) (N := some 68) (v := ?_) (a' := ?_) #[true, true, true, true, true, false, false, false] rfl rfl (by kernel_rfl) (fun _ _ _ h => h) (Or.inl ⟨by rfl, ?_⟩) hHeld ?_ ?_
            rotate_left
            · rintro w' s0
              go_simp
              first | with_reducible rfl | rfl
            rotate_left
            · simp only [Act.put, List.setIfInBounds_toArray, List.set_cons_zero, List.set_cons_succ, i64_w, i32_w]
              rfl
            refine pure_ (i := 5) (N := some 69) (v := ?_) (a' := ?_) #[true, true, true, true, true, true, false, false] rfl rfl (by kernel_rfl) (fun _ _ _ h => h) (Or.inl ⟨by rfl, ?_⟩) ?_ ?_
            rotate_left
            · intro w'
              go_simp
              first | with_reducible rfl | rfl
            rotate_left
            · simp only [Act.put, List.setIfInBounds_toArray, List.set_cons_zero, List.set_cons_succ, i64_w, i32_w]
              rfl
            refine one_ (i := 6) (N := some 70) #[true, true, true, true, true, true, true, false] rfl rfl (by kernel_rfl) (by decide) (fun K hK => ?_)
            refine goes_ Try.func20 (by kernel_rfl) rfl #[.pointer (some ⟨g, 0, none⟩)] (by rfl) rfl rfl (by (try simp only [List.map_toArray, List.map_cons, List.map_nil]); first | done | rfl) ?_
            refine (bestS (L1 := [(.row (.slice (some ⟨b, 0, none⟩) fl.length c3), fl)]) (L2 := []) (HC.out.step (Below.refl _ _).drew) (by omega)).mono ?_
            rintro e w5 ⟨rfl, H5⟩
            refine ⟨_, rfl, ?_⟩
            obtain ⟨b', hb', _, _, k1, _⟩ := RowIs.elem (Sts.getRow (L1 := []) H5) (by omega) k hlk
            obtain rfl : b = b' := by injection hb' with hb'; injection hb'
            rw [hx.out] at k1
            rw [hM.out]
            have HC2 := Lib.hid H5
            clear H5 hb'
            refine hK.out _ _ k1 (fun hHeld => ?_)
            clear hK K
            refine norm_ (a' := ?_) ?_ ?_
            rotate_left
            · show Act.put _ (some 70) _ = _
              simp only [Act.put, List.setIfInBounds_toArray, List.set_cons_zero, List.set_cons_succ, i64_w, i32_w]
              rfl
            refine pure_ (i := 7) (N := some 71) (v := ?_) (a' := ?_) #[true, true, true, true, true, true, true, true] rfl rfl (by kernel_rfl) (fun _ _ _ h => h) (Or.inl ⟨by rfl, ?_⟩) ?_ ?_
            rotate_left
            · intro w'
              go_simp
              first | with_reducible rfl | rfl
            rotate_left
            · simp only [Act.put, List.setIfInBounds_toArray, List.set_cons_zero, List.set_cons_succ, i64_w, i32_w]
              rfl
            refine done_ (by kernel_rfl) ?_
            go_wp2_with fail
            go_roundw
            case rel => exact ⟨k + 1, by omega, by go_num, by rw [hM.out, ← hcnt.out], HC2.out⟩
            case measure => simp [intOf]; omega
          · have e5 : (x.f1 == M) = false := beq_eq_false_iff_ne.mpr hxm
            have hcnt : (P.length : Int) = ((placesFrom M 0 (fl.take (k + 1))).length : Int) := by rw [hps.out, if_neg hxm, List.append_nil]
            replace hxm := Lib.hid hxm
            replace hcnt := Lib.hid hcnt
            go_wp2_with fail
            refine start_ (n := 8) (S := fun w' => w'.cell? ⟨b, k * 3 + 1, none⟩ = some (.int .i64 x.f1)) (ds := []) #[false, false, false, false, false, false, false, false] (by kernel_rfl) rfl rfl (by go_simp) (fun hHeld => ?_)
            refine pure_ (i := 0) (N := some 64) (v := ?_) (a' := ?_) #[true, false, false, false, false, false, false, false] rfl rfl (by kernel_rfl) (fun _ _ _ h => h) (Or.inl ⟨by rfl, ?_⟩) ?_ ?_
            rotate_left
            · intro w'
              go_simp
              first | with_reducible rfl | rfl
            rotate_left
            · simp only [Act.put, List.setIfInBounds_toArray, List.set_cons_zero, List.set_cons_succ, i64_w, i32_w]
              rfl
            refine pure_ (i := 1) (N := some 65) (v := ?_) (a' := ?_) #[true, true, false, false, false, false, false, false] rfl rfl (by kernel_rfl) (fun _ _ _ h => h) (Or.inl ⟨by rfl, ?_⟩) ?_ ?_
            rotate_left
            · intro w'
              go_simp
              first | with_reducible rfl | rfl
            rotate_left
            · simp only [Act.put, List.setIfInBounds_toArray, List.set_cons_zero, List.set_cons_succ, i64_w, i32_w]
              rfl
            refine pure_ (i := 2) (N := some 66) (v := ?_) (a' := ?_) #[true, true, true, false, false, false, false, false] rfl rfl (by kernel_rfl) (fun _ _ _ h => h) (Or.inl ⟨by rfl, ?_⟩) ?_ ?_
            rotate_left
            · intro w'
              go_simp
              first | with_reducible rfl | rfl
            rotate_left
            · simp only [Act.put, List.setIfInBounds_toArray, List.set_cons_zero, List.set_cons_succ, i64_w, i32_w]
              rfl
            refine pure_ (i := 3) (N := some 67) (v := ?_) (a' := ?_) #[true, true, true, true, false, false, false, false] rfl rfl (by kernel_rfl) (fun _ _ _ h => h) (Or.inl ⟨by rfl, ?_⟩) ?_ ?_
            rotate_left
            · intro w'
              go_simp
              first | with_reducible rfl | rfl
            rotate_left
            · simp only [Act.put, List.setIfInBounds_toArray, List.set_cons_zero, List.set_cons_succ, i64_w, i32_w]
              rfl
            refine take_ (i := 4) (N := some 68) (v := ?_) (a' := ?_) #[true, true, true, true, true, false, false, false] rfl rfl (by kernel_rfl) (fun _ _ _ h => h) (Or.inl ⟨by rfl, ?_⟩) hHeld ?_ ?_
            rotate_left
            · rintro w' s0
              go_simp
              first | with_reducible rfl | rfl
            rotate_left
            · simp only [Act.put, List.setIfInBounds_toArray, List.set_cons_zero, List.set_cons_succ, i64_w, i32_w]
              rfl
            refine pure_ (i := 5) (N := some 69) (v := ?_) (a' := ?_) #[true, true, true, true, true, true, false, false] rfl rfl (by kernel_rfl) (fun _ _ _ h => h) (Or.inl ⟨by rfl, ?_⟩) ?_ ?_
            rotate_left
            · intro w'
              go_simp
              first | with_reducible rfl | rfl
            rotate_left
            · simp only [Act.put, List.setIfInBounds_toArray, List.set_cons_zero, List.set_cons_succ, i64_w, i32_w]
              rfl
            refine one_ (i := 6) (N := some 70) #[true, true, true, true, true, true, true, false] rfl rfl (by kernel_rfl) (by decide) (fun K hK => ?_)
            refine goes_ Try.func20 (by kernel_rfl) rfl #[.pointer (some ⟨g, 0, none⟩)] (by rfl) rfl rfl (by (try simp only [List.map_toArray, List.map_cons, List.map_nil]); first | done | rfl) ?_
            refine (bestS (L1 := [(.row (.slice (some ⟨b, 0, none⟩) fl.length c3), fl)]) (L2 := []) (HC.out.step (Below.refl _ _).drew) (by omega)).mono ?_
            rintro e w5 ⟨rfl, H5⟩
            refine ⟨_, rfl, ?_⟩
            obtain ⟨b', hb', _, _, k1, _⟩ := RowIs.elem (Sts.getRow (L1 := []) H5) (by omega) k hlk
            obtain rfl : b = b' := by injection hb' with hb'; injection hb'
            rw [hx.out] at k1
            rw [hM.out]
            have HC2 := Lib.hid H5
            clear H5 hb'
            refine hK.out _ _ k1 (fun hHeld => ?_)
            clear hK K
            refine norm_ (a' := ?_) ?_ ?_
            rotate_left
            · show Act.put _ (some 70) _ = _
              simp only [Act.put, List.setIfInBounds_toArray, List.set_cons_zero, List.set_cons_succ, i64_w, i32_w]
              rfl
            refine pure_ (i := 7) (N := some 71) (v := ?_) (a' := ?_) #[true, true, true, true, true, true, true, true] rfl rfl (by kernel_rfl) (fun _ _ _ h => h) (Or.inl ⟨by rfl, ?_⟩) ?_ ?_
            rotate_left
            · intro w'
              go_simp
              first | with_reducible rfl | rfl
            rotate_left
            · simp only [Act.put, List.setIfInBounds_toArray, List.set_cons_zero, List.set_cons_succ, i64_w, i32_w]
              rfl
            refine done_ (by kernel_rfl) ?_
            go_wp2_with fail
            go_roundw
            case rel => exact ⟨k + 1, by omega, by go_num, by rw [hM.out, ← hcnt.out], HC2.out⟩
            case measure => simp [intOf]; omega
        · have e0 : ¬ ((k : Int) < (fl.length : Int)) := by omega
          obtain rfl : k = fl.length := by omega
          rw [List.take_length]
          rw [show placesFrom (mxp fl) 0 fl = places fl (mxp fl) from rfl]
          have HS3 : Sts w wr [(.set g, fl)] := HC.out.sub (List.sublist_cons_self _ _)
          replace HS3 := Lib.hid HS3
          clear HC
          have hpi0 : pickPlace fl (p + ((places fl (mxp fl)).length : Int)) = pickPlace fl p := by have := pick_shift fl p 1; rwa [Int.mul_one] at this
          have hpi1 : pickPlace fl (p - 3 * ((places fl (mxp fl)).length : Int)) = pickPlace fl p := by have := pick_shift fl p (-3); rwa [show p + ((places fl (mxp fl)).length : Int) * (-3) = p - 3 * ((places fl (mxp fl)).length : Int) by omega] at this
          have hml : (places fl (mxp fl)).length ≤ 60 := Nat.le_trans (placesFrom_len _ fl 0) hfl
          have hpp := pick_spec fl p
          have hmp := fun h => places_pos (l := fl) h
          have hm0 := mxp_nonneg fl
          have hmz := fun h => mxp_zero (l := fl) hgood.out h
          have hfl2 : fl.length ≤ 10000 := by omega
          replace hfl2 := Lib.hid hfl2
          replace hpp := Lib.hid hpp
          replace hmz := Lib.hid hmz
          generalize hm : (places fl (mxp fl)).length = m at *
          replace hm := Lib.hid hm
          replace hpi0 := Lib.hid hpi0
          replace hpi1 := Lib.hid hpi1
          by_cases hp : 0 < mxp fl
          · have hm1 : 0 < m := hmp hp
            have d1 : decide ((0 : Int) < (m : Int)) = true := decide_eq_true (by omega)
            obtain ⟨_, q2, q3⟩ := hpp.out hm1
            have hel : (fl.eraseIdx (pickPlace fl p)).length ≤ 10000 := by rw [List.length_eraseIdx_of_lt q2]; omega
            have hel5 : (fl.eraseIdx (pickPlace fl p)).length ≤ 100000 := by omega
            have hT : ∀ (W : World) (q : Int) (gg : Nat) (L1 L2 : List (Key × List S30)), Sts w W (L1 ++ (.set gg, fl) :: L2) → pickPlace fl q = pickPlace fl p → Calls Try.prog 14 #[.pointer (some ⟨gg, 0, none⟩), .int .i64 0, .int .i64 q] W fun e w' => e = .returned (.tuple #[.agg #[.int .i64 (fl.getD (pickPlace fl p) z30).f0, .int .i64 (fl.getD (pickPlace fl p) z30).f1, .int .i64 (fl.getD (pickPlace fl p) z30).f2], .bool true]) ∧ Sts w w' (L1 ++ (.set gg, fl.eraseIdx (pickPlace fl p)) :: L2) := by
              intro W q gg L1 L2 h hq
              have := takeS h hfl2.out 0 q (by rw [hm.out]; exact hm1) hp
              rw [hq] at this
              exact this
            generalize (fl.getD (pickPlace fl p) z30).f0 = x0 at *
            generalize (fl.getD (pickPlace fl p) z30).f1 = x1 at *
            generalize (fl.getD (pickPlace fl p) z30).f2 = x2 at *
            generalize fl.eraseIdx (pickPlace fl p) = fe at *
            replace hT := Lib.hid hT
            replace hel := Lib.hid hel
            replace hel5 := Lib.hid hel5
            clear q2 q3 hmp
            go_wp2_with fail
            refine (copyS (L1 := []) (L2 := []) HS3.out hfl2.out).mono ?_
            rintro e w6 ⟨t, rfl, H6⟩
            replace H6 := Lib.hid H6
            go_wp2_with fail
            refine (copyS (L1 := [(.set t, fl)]) (L2 := []) H6.out hfl2.out).mono ?_
            rintro e w7 ⟨u, rfl, H7⟩
            replace H7 := Lib.hid H7
            go_wp2_with fail
            refine (hT.out _ p g [(.set u, fl), (.set t, fl)] [] H7.out rfl).mono ?_
            rintro e w8 ⟨rfl, H8⟩
            have H8b : Sts w _ [(boxAt w8.heap.size, [⟨x0, x1, x2⟩]), (.set u, fl), (.set t, fl), (.set g, fe)] := H8.addBox x0 x1 x2
            replace H8b := Lib.hid H8b
            clear H8
            go_wp2_with fail
            refine (hT.out _ _ t [(boxAt w8.heap.size, [⟨x0, x1, x2⟩]), (.set u, fl)] [(.set g, fe)] H8b.out hpi0.out).mono ?_
            rintro e w9 ⟨rfl, H9⟩
            have H9b : Sts w _ [(boxAt w9.heap.size, [⟨x0, x1, x2⟩]), (boxAt w8.heap.size, [⟨x0, x1, x2⟩]), (.set u, fl), (.set t, fe), (.set g, fe)] := H9.addBox x0 x1 x2
            replace H9b := Lib.hid H9b
            clear H9
            go_wp2_with fail
            refine (hT.out _ _ u [(boxAt w9.heap.size, [⟨x0, x1, x2⟩]), (boxAt w8.heap.size, [⟨x0, x1, x2⟩])] [(.set t, fe), (.set g, fe)] H9b.out hpi1.out).mono ?_
            rintro e w10 ⟨rfl, H10⟩
            have H10b : Sts w _ [(boxAt w10.heap.size, [⟨x0, x1, x2⟩]), (boxAt w9.heap.size, [⟨x0, x1, x2⟩]), (boxAt w8.heap.size, [⟨x0, x1, x2⟩]), (.set u, fe), (.set t, fe), (.set g, fe)] := H10.addBox x0 x1 x2
            obtain ⟨k0, k1, k2⟩ := Sts.box (L1 := []) H10b
            obtain ⟨k3, k4, k5⟩ := Sts.box (L1 := [(boxAt w10.heap.size, [⟨x0, x1, x2⟩])]) H10b
            obtain ⟨k6, k7, k8⟩ := Sts.box (L1 := [(boxAt w10.heap.size, [⟨x0, x1, x2⟩]), (boxAt w9.heap.size, [⟨x0, x1, x2⟩])]) H10b
            dsimp only at k0 k1 k2 k3 k4 k5 k6 k7 k8
            have HX : Sts w _ [(.set u, fe), (.set t, fe), (.set g, fe)] := H10b.sub ((((List.Sublist.refl _).cons _).cons _).cons _)
            replace HX := Lib.hid HX
            clear H10 H10b
            go_wp2_with fail
            refine (allB (L1 := [(.set u, fe), (.set t, fe)]) (L2 := []) HX.out hel.out).mono ?_
            rintro e wa ⟨A4, c4, hc4, rfl, HX1, hk4, _⟩
            replace HX1 := Lib.hid HX1
            replace hk4 := Lib.hid hk4
            go_wp2_with fail
            refine (plainC hk4.out hc4 hel5.out).mono ?_
            rintro e wb ⟨A5, c5, rfl, hp5, hb5⟩
            have HX2 := HX1.out.step hb5
            replace HX2 := Lib.hid HX2
            replace hp5 := Lib.hid hp5
            clear hb5 hk4 HX1
            go_wp2_with fail
            refine (allB (L1 := [(.set u, fe)]) (L2 := [(.set g, fe)]) HX2.out hel.out).mono ?_
            rintro e wc ⟨A6, c6, hc6, rfl, HX3, hk6, hb6⟩
            have hp6 := hp5.out.step hb6
            replace hp6 := Lib.hid hp6
            replace HX3 := Lib.hid HX3
            replace hk6 := Lib.hid hk6
            clear hb6 hp5 HX2
            go_wp2_with fail
            refine (plainC hk6.out hc6 hel5.out).mono ?_
            rintro e wd ⟨A7, c7, rfl, hp7, hb7⟩
            have HX4 := HX3.out.step hb7
            have hp8 := hp6.out.step hb7
            replace hp8 := Lib.hid hp8
            replace hp7 := Lib.hid hp7
            replace HX4 := Lib.hid HX4
            clear hb7 hp6 HX3 hk6
            go_wp2_with fail
            refine (sameC hp8.out hp7.out hel5.out).mono ?_
            rintro e we ⟨rfl, hb8⟩
            have HX := HX4.out.step hb8
            replace HX := Lib.hid HX
            clear hb8 HX4 hp7 hp8
            go_wp2_with fail
            refine (allB (L1 := [(.set u, fe), (.set t, fe)]) (L2 := []) HX.out hel.out).mono ?_
            rintro e wa ⟨A4, c4, hc4, rfl, HX1, hk4, _⟩
            replace HX1 := Lib.hid HX1
            replace hk4 := Lib.hid hk4
            go_wp2_with fail
            refine (plainC hk4.out hc4 hel5.out).mono ?_
            rintro e wb ⟨A5, c5, rfl, hp5, hb5⟩
            have HX2 := HX1.out.step hb5
            replace HX2 := Lib.hid HX2
            replace hp5 := Lib.hid hp5
            clear hb5 hk4 HX1
            go_wp2_with fail
            refine (allB (L1 := []) (L2 := [(.set t, fe), (.set g, fe)]) HX2.out hel.out).mono ?_
            rintro e wc ⟨A6, c6, hc6, rfl, HX3, hk6, hb6⟩
            have hp6 := hp5.out.step hb6
            replace hp6 := Lib.hid hp6
            replace HX3 := Lib.hid HX3
            replace hk6 := Lib.hid hk6
            clear hb6 hp5 HX2
            go_wp2_with fail
            refine (plainC hk6.out hc6 hel5.out).mono ?_
            rintro e wd ⟨A7, c7, rfl, hp7, hb7⟩
            have HX4 := HX3.out.step hb7
            have hp8 := hp6.out.step hb7
            replace hp8 := Lib.hid hp8
            replace hp7 := Lib.hid hp7
            replace HX4 := Lib.hid HX4
            clear hb7 hp6 HX3 hk6
            go_wp2_with fail
            refine (sameC hp8.out hp7.out hel5.out).mono ?_
            rintro e we ⟨rfl, hb8⟩
            have HX := HX4.out.step hb8
            replace HX := Lib.hid HX
            clear hb8 HX4 hp7 hp8
            go_wp2_with fail
            refine (known_walk _).mono ?_
            rintro e wk ⟨rfl, hb⟩
            have HZ := HX.out.below.trans (hb.mono HX.out.size)
            replace HZ := Lib.hid HZ
            clear hb
            go_wp2_with fail
            go_ret
            exact ⟨rfl, HZ.out⟩
          · obtain rfl : fl = [] := hmz.out (by omega)
            have hm00 : m = 0 := hm.out.symm
            subst hm00
            have hT : ∀ (W : World) (q : Int) (gg : Nat) (L1 L2 : List (Key × List S30)), Sts w W (L1 ++ (.set gg, []) :: L2) → Calls Try.prog 14 #[.pointer (some ⟨gg, 0, none⟩), .int .i64 0, .int .i64 q] W fun e w' => e = .returned (.tuple #[.agg #[.int .i64 0, .int .i64 0, .int .i64 0], .bool false]) ∧ Sts w w' (L1 ++ (.set gg, []) :: L2) := by
              intro W q gg L1 L2 h
              exact takeNoS h (by decide) 0 q (.inr (by decide))
            replace hT := Lib.hid hT
            clear hmp
            go_wp2_with fail
            refine (copyS (L1 := []) (L2 := []) HS3.out (by decide)).mono ?_
            rintro e w6 ⟨t, rfl, H6⟩
            replace H6 := Lib.hid H6
            go_wp2_with fail
            refine (copyS (L1 := [(.set t, [])]) (L2 := []) H6.out (by decide)).mono ?_
            rintro e w7 ⟨u, rfl, H7⟩
            replace H7 := Lib.hid H7
            go_wp2_with fail
            refine (hT.out _ p g [(.set u, []), (.set t, [])] [] H7.out).mono ?_
            rintro e w8 ⟨rfl, H8⟩
            have H8b : Sts w _ [(boxAt w8.heap.size, [⟨0, 0, 0⟩]), (.set u, []), (.set t, []), (.set g, [])] := H8.addBox 0 0 0
            replace H8b := Lib.hid H8b
            clear H8
            go_wp2_with fail
            refine (hT.out _ _ t [(boxAt w8.heap.size, [⟨0, 0, 0⟩]), (.set u, [])] [(.set g, [])] H8b.out).mono ?_
            rintro e w9 ⟨rfl, H9⟩
            have H9b : Sts w _ [(boxAt w9.heap.size, [⟨0, 0, 0⟩]), (boxAt w8.heap.size, [⟨0, 0, 0⟩]), (.set u, []), (.set t, []), (.set g, [])] := H9.addBox 0 0 0
            replace H9b := Lib.hid H9b
            clear H9
            go_wp2_with fail
            refine (hT.out _ _ u [(boxAt w9.heap.size, [⟨0, 0, 0⟩]), (boxAt w8.heap.size, [⟨0, 0, 0⟩])] [(.set t, []), (.set g, [])] H9b.out).mono ?_
            rintro e w10 ⟨rfl, H10⟩
            have H10b : Sts w _ [(boxAt w10.heap.size, [⟨0, 0, 0⟩]), (boxAt w9.heap.size, [⟨0, 0, 0⟩]), (boxAt w8.heap.size, [⟨0, 0, 0⟩]), (.set u, []), (.set t, []), (.set g, [])] := H10.addBox 0 0 0
            obtain ⟨k0, k1, k2⟩ := Sts.box (L1 := []) H10b
            obtain ⟨k3, k4, k5⟩ := Sts.box (L1 := [(boxAt w10.heap.size, [⟨0, 0, 0⟩])]) H10b
            obtain ⟨k6, k7, k8⟩ := Sts.box (L1 := [(boxAt w10.heap.size, [⟨0, 0, 0⟩]), (boxAt w9.heap.size, [⟨0, 0, 0⟩])]) H10b
            dsimp only at k0 k1 k2 k3 k4 k5 k6 k7 k8
            have HX : Sts w _ [(.set u, []), (.set t, []), (.set g, [])] := H10b.sub ((((List.Sublist.refl _).cons _).cons _).cons _)
            replace HX := Lib.hid HX
            clear H10 H10b
            go_wp2_with fail
            refine (allB (L1 := [(.set u, []), (.set t, [])]) (L2 := []) HX.out (by decide)).mono ?_
            rintro e wa ⟨A4, c4, hc4, rfl, HX1, hk4, _⟩
            replace HX1 := Lib.hid HX1
            replace hk4 := Lib.hid hk4
            go_wp2_with fail
            refine (plainC hk4.out hc4 (by decide)).mono ?_
            rintro e wb ⟨A5, c5, rfl, hp5, hb5⟩
            have HX2 := HX1.out.step hb5
            replace HX2 := Lib.hid HX2
            replace hp5 := Lib.hid hp5
            clear hb5 hk4 HX1
            go_wp2_with fail
            refine (allB (L1 := [(.set u, [])]) (L2 := [(.set g, [])]) HX2.out (by decide)).mono ?_
            rintro e wc ⟨A6, c6, hc6, rfl, HX3, hk6, hb6⟩
            have hp6 := hp5.out.step hb6
            replace hp6 := Lib.hid hp6
            replace HX3 := Lib.hid HX3
            replace hk6 := Lib.hid hk6
            clear hb6 hp5 HX2
            go_wp2_with fail
            refine (plainC hk6.out hc6 (by decide)).mono ?_
            rintro e wd ⟨A7, c7, rfl, hp7, hb7⟩
            have HX4 := HX3.out.step hb7
            have hp8 := hp6.out.step hb7
            replace hp8 := Lib.hid hp8
            replace hp7 := Lib.hid hp7
            replace HX4 := Lib.hid HX4
            clear hb7 hp6 HX3 hk6
            go_wp2_with fail
            refine (sameC hp8.out hp7.out (by decide)).mono ?_
            rintro e we ⟨rfl, hb8⟩
            have HX := HX4.out.step hb8
            replace HX := Lib.hid HX
            clear hb8 HX4 hp7 hp8
            go_wp2_with fail
            refine (allB (L1 := [(.set u, []), (.set t, [])]) (L2 := []) HX.out (by decide)).mono ?_
            rintro e wa ⟨A4, c4, hc4, rfl, HX1, hk4, _⟩
            replace HX1 := Lib.hid HX1
            replace hk4 := Lib.hid hk4
            go_wp2_with fail
            refine (plainC hk4.out hc4 (by decide)).mono ?_
            rintro e wb ⟨A5, c5, rfl, hp5, hb5⟩
            have HX2 := HX1.out.step hb5
            replace HX2 := Lib.hid HX2
            replace hp5 := Lib.hid hp5
            clear hb5 hk4 HX1
            go_wp2_with fail
            refine (allB (L1 := []) (L2 := [(.set t, []), (.set g, [])]) HX2.out (by decide)).mono ?_
            rintro e wc ⟨A6, c6, hc6, rfl, HX3, hk6, hb6⟩
            have hp6 := hp5.out.step hb6
            replace hp6 := Lib.hid hp6
            replace HX3 := Lib.hid HX3
            replace hk6 := Lib.hid hk6
            clear hb6 hp5 HX2
            go_wp2_with fail
            refine (plainC hk6.out hc6 (by decide)).mono ?_
            rintro e wd ⟨A7, c7, rfl, hp7, hb7⟩
            have HX4 := HX3.out.step hb7
            have hp8 := hp6.out.step hb7
            replace hp8 := Lib.hid hp8
            replace hp7 := Lib.hid hp7
            replace HX4 := Lib.hid HX4
            clear hb7 hp6 HX3 hk6
            go_wp2_with fail
            refine (sameC hp8.out hp7.out (by decide)).mono ?_
            rintro e we ⟨rfl, hb8⟩
            have HX := HX4.out.step hb8
            replace HX := Lib.hid HX
            clear hb8 HX4 hp7 hp8
            go_wp2_with fail
            refine (known_walk _).mono ?_
            rintro e wk ⟨rfl, hb⟩
            have HZ := HX.out.below.trans (hb.mono HX.out.size)
            replace HZ := Lib.hid HZ
            clear hb
            go_wp2_with fail
            go_ret
            exact ⟨rfl, HZ.out⟩
theorem picks_any (A : Option Addr) (c : Nat) (l : List S30) (p : Int) (w : World) (hr : Kd.C k30 w A l.length l) : Calls Try.prog 7 #[.slice A l.length c, .int .i64 p] w fun e w' => e = .returned (.bool true) ∧ Below w.heap.size w w' := by
  by_cases h1 : l.length < 1
  · have e2 : decide ((l.length : Int) < 1) = true := decide_eq_true (by omega)
    clear h1 hr
    have H0 : Sts w w [] := Sts.empty (Below.refl _ _)
    replace H0 := Lib.hid H0
    go_enter Try.func7, Try.ntmps7
    go_wp2_with fail
    refine (newS H0.out).mono ?_
    rintro e w1 ⟨g, rfl, H1⟩
    replace H1 := Lib.hid H1
    go_wp2_with fail
    refine (known_walk _).mono ?_
    rintro e wk ⟨rfl, hb⟩
    have HZ := H1.out.below.trans (hb.mono H1.out.size)
    replace HZ := Lib.hid HZ
    clear hb
    go_wp2_with fail
    go_ret
    exact ⟨rfl, HZ.out⟩
  have e2 : decide ((l.length : Int) < 1) = false := decide_eq_false (by omega)
  by_cases h2 : 60 < l.length
  · have e1 : decide ((60 : Int) < (l.length : Int)) = true := decide_eq_true (by omega)
    clear h1 h2 hr
    have H0 : Sts w w [] := Sts.empty (Below.refl _ _)
    replace H0 := Lib.hid H0
    go_enter Try.func7, Try.ntmps7
    go_wp2_with fail
    refine (newS H0.out).mono ?_
    rintro e w1 ⟨g, rfl, H1⟩
    replace H1 := Lib.hid H1
    go_wp2_with fail
    refine (known_walk _).mono ?_
    rintro e wk ⟨rfl, hb⟩
    have HZ := H1.out.below.trans (hb.mono H1.out.size)
    replace HZ := Lib.hid HZ
    clear hb
    go_wp2_with fail
    go_ret
    exact ⟨rfl, HZ.out⟩
  have e1 : decide ((60 : Int) < (l.length : Int)) = false := decide_eq_false (by omega)
  by_cases h3 : p < -1000000
  · have e3 : decide (p < -1000000) = true := decide_eq_true h3
    clear h1 h2 h3 hr
    have H0 : Sts w w [] := Sts.empty (Below.refl _ _)
    replace H0 := Lib.hid H0
    go_enter Try.func7, Try.ntmps7
    go_wp2_with fail
    refine (newS H0.out).mono ?_
    rintro e w1 ⟨g, rfl, H1⟩
    replace H1 := Lib.hid H1
    go_wp2_with fail
    refine (known_walk _).mono ?_
    rintro e wk ⟨rfl, hb⟩
    have HZ := H1.out.below.trans (hb.mono H1.out.size)
    replace HZ := Lib.hid HZ
    clear hb
    go_wp2_with fail
    go_ret
    exact ⟨rfl, HZ.out⟩
  have e3 : decide (p < -1000000) = false := decide_eq_false h3
  by_cases h4 : 1000000 < p
  · have e4 : decide (1000000 < p) = true := decide_eq_true h4
    clear h1 h2 h3 h4 hr
    have H0 : Sts w w [] := Sts.empty (Below.refl _ _)
    replace H0 := Lib.hid H0
    go_enter Try.func7, Try.ntmps7
    go_wp2_with fail
    refine (newS H0.out).mono ?_
    rintro e w1 ⟨g, rfl, H1⟩
    replace H1 := Lib.hid H1
    go_wp2_with fail
    refine (known_walk _).mono ?_
    rintro e wk ⟨rfl, hb⟩
    have HZ := H1.out.below.trans (hb.mono H1.out.size)
    replace HZ := Lib.hid HZ
    clear hb
    go_wp2_with fail
    go_ret
    exact ⟨rfl, HZ.out⟩
  exact picks_walk A c l p w (by omega) (by omega) (by omega) (by omega) hr
end Go.Proofs.Ytojdbpeaclnmkaa.Rd
