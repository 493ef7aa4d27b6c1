/- ReadyParts: what is put into two sets, and taken of each, is what is taken of one with both. -/
import Derived.Test.YtojdbpeaclnmkaaRdBox
set_option linter.unusedVariables false
set_option linter.unusedSimpArgs false
namespace Go.Proofs.Ytojdbpeaclnmkaa.Rd
open Go Go.RowKit Go.Proofs.YtojdbpeaclnmkaaW.PrintWords Go.Proofs.YtojdbpeaclnmkaaW.PrintLast Go.Proofs.YtojdbpeaclnmkaaW.PrintMore Go.Proofs.Ytojdbpeaclnmkaa Go.Proofs.Ytojdbpeaclnmkaa.Print
attribute [local go_sem] max2_int min2_int max_two min_two
theorem snocB {M : List S30} {a b : Int} {x0 v x2 : Int} (h : ∀ j ∈ M, a ≤ j.f1 ∧ j.f1 ≤ b) (hv : a ≤ v ∧ v ≤ b) : ∀ j ∈ M ++ [⟨x0, v, x2⟩], a ≤ j.f1 ∧ j.f1 ≤ b := by
  intro j hj
  rcases List.mem_append.1 hj with hj | hj
  · exact h j hj
  · rw [List.mem_singleton] at hj
    subst hj
    exact hv
def PartRel2 (w : World) (g h u : Nat) (S : List S30) (n : Nat) (vi : Value) (wr : World) : Prop := ∃ (k : Nat) (M : List S30), k ≤ n ∧ vi = .int .i64 k ∧ M.length = k ∧ (∀ j ∈ M, 1 ≤ j.f1 ∧ j.f1 ≤ 41) ∧ Sts w wr [(.set u, S ++ M), (.set h, M), (.set g, S)]
def PartRel3 (w : World) (g h u : Nat) (n : Nat) (vi : Value) (wr : World) : Prop := ∃ (k : Nat) (ms ns : List S30), ms.length + ns.length + k = n ∧ vi = .int .i64 k ∧ (∀ j ∈ ms, 51 ≤ j.f1 ∧ j.f1 ≤ 91) ∧ (∀ j ∈ ns, 1 ≤ j.f1 ∧ j.f1 ≤ 41) ∧ Sts w wr [(.set u, ms ++ ns), (.set h, ns), (.set g, ms)]
def PartRel1 (w : World) (g h u : Nat) (n : Nat) (vi : Value) (wr : World) : Prop := ∃ (k : Nat) (M : List S30), k ≤ n ∧ vi = .int .i64 k ∧ M.length = k ∧ (∀ j ∈ M, 51 ≤ j.f1 ∧ j.f1 ≤ 91) ∧ Sts w wr [(.set u, M), (.set h, []), (.set g, M)]
set_option maxRecDepth 100000 in
set_option maxHeartbeats 4000000 in
theorem parts_walk (A : Option Addr) (c : Nat) (l : List S30) (A' : Option Addr) (c' : Nat) (l' : List S30) (w : World) (hl : l.length ≤ 30) (hl' : l'.length ≤ 30) (hr : Kd.C k30 w A l.length l) (hr' : Kd.C k30 w A' l'.length l') : Calls Try.prog 9 #[.slice A l.length c, .slice A' l'.length c'] w fun e w' => e = .returned (.bool true) ∧ Below w.heap.size w w' := by
  have e1 : decide ((30 : Int) < (l.length : Int)) = false := decide_eq_false (by omega)
  have e2 : decide ((30 : Int) < (l'.length : Int)) = false := decide_eq_false (by omega)
  have HR := Lib.hid hr
  have HL := Lib.hid hl
  have HR' := Lib.hid hr'
  have HL' := Lib.hid hl'
  clear hr hl hr' hl'
  have H0 : Sts w w [] := Sts.empty (Below.refl _ _)
  replace H0 := Lib.hid H0
  go_enter Try.func9, Try.ntmps9
  go_wp2_with fail
  refine (newS H0.out).mono ?_
  rintro e w1 ⟨g, rfl, H1⟩
  replace H1 := Lib.hid H1
  go_wp2_with fail
  refine (newS H1.out).mono ?_
  rintro e w2 ⟨h, rfl, H2⟩
  replace H2 := Lib.hid H2
  go_wp2_with fail
  refine (newS H2.out).mono ?_
  rintro e w3 ⟨u, rfl, H3⟩
  replace H3 := Lib.hid H3
  go_wp2_with fail
  go_loopw [8] (fun vi wr => PartRel1 w g h u l.length vi wr) (fun vi _ => l.length - (intOf vi).toNat)
  case atStart => exact ⟨0, [], Nat.zero_le _, rfl, rfl, (by intro j hj; cases hj), H3.out⟩
  case round =>
    obtain ⟨k, M, hk, rfl, hMl, hM, HS⟩ := hrel
    replace HS := Lib.hid HS
    by_cases hlk : k < l.length
    · obtain ⟨ad, rfl, c0, c1, c2, hab⟩ := elemIn HR.out HS.out.below k hlk
      have hkb : k < 30 := Nat.lt_of_lt_of_le hlk HL.out
      have hlk' : (k : Int) < (l.length : Int) := by omega
      generalize hx : l.getD k z30 = x at *
      replace hx := Lib.hid hx
      replace hM := Lib.hid hM
      have hMk := hMl
      replace hMl := Lib.hid hMl
      by_cases h40 : 40 < x.f1
      · have h0 : ¬ x.f1 ≤ 0 := by omega
        have hV1 : (1 : Int) ≤ 91 := by omega
        have hV2 : 91 ≤ (100 : Int) := by omega
        have hVl : (51 : Int) ≤ 91 ∧ 91 ≤ (91 : Int) := by omega
        replace hV1 := Lib.hid hV1
        replace hV2 := Lib.hid hV2
        replace hVl := Lib.hid hVl
        go_wp2_with fail
        have H4 := HS.out.addBox x.f0 (91) x.f2
        replace H4 := Lib.hid H4
        refine (putS (L1 := [(boxAt wr.heap.size, [⟨x.f0, 91, x.f2⟩]), (.set u, M), (.set h, [])]) (L2 := []) H4.out x.f0 (91) x.f2 hV1.out hV2.out (by omega)).mono ?_
        rintro e w4 ⟨rfl, H5⟩
        obtain ⟨k0, k1, k2⟩ := Sts.box (L1 := []) H5
        dsimp only at k0 k1 k2
        replace H5 := Lib.hid H5
        go_wp2_with fail
        refine (putS (L1 := [(boxAt wr.heap.size, [⟨x.f0, 91, x.f2⟩])]) (L2 := [(.set h, []), (.set g, M ++ [⟨x.f0, 91, x.f2⟩])]) H5.out x.f0 (91) x.f2 hV1.out hV2.out (by omega)).mono ?_
        rintro e w5 ⟨rfl, H6⟩
        have H7 := H6.sub (List.sublist_cons_self _ _)
        replace H7 := Lib.hid H7
        clear H6
        go_wp2_with fail
        go_roundw
        case rel => exact ⟨k + 1, M ++ [⟨x.f0, 91, x.f2⟩], by omega, by go_num, by rw [List.length_append, hMl.out]; rfl, snocB hM.out hVl.out, (show Sts w w5 [(.set u, M ++ [(⟨x.f0, 91, x.f2⟩ : S30)]), (.set h, []), (.set g, M ++ [(⟨x.f0, 91, x.f2⟩ : S30)])] from H7.out)⟩
        case measure => simp [intOf]; omega
      · by_cases h0 : x.f1 ≤ 0
        · have h41 : x.f1 ≤ 40 := by omega
          have hV1 : (1 : Int) ≤ 51 := by omega
          have hV2 : 51 ≤ (100 : Int) := by omega
          have hVl : (51 : Int) ≤ 51 ∧ 51 ≤ (91 : Int) := by omega
          replace hV1 := Lib.hid hV1
          replace hV2 := Lib.hid hV2
          replace hVl := Lib.hid hVl
          go_wp2_with fail
          have H4 := HS.out.addBox x.f0 (51) x.f2
          replace H4 := Lib.hid H4
          refine (putS (L1 := [(boxAt wr.heap.size, [⟨x.f0, 51, x.f2⟩]), (.set u, M), (.set h, [])]) (L2 := []) H4.out x.f0 (51) x.f2 hV1.out hV2.out (by omega)).mono ?_
          rintro e w4 ⟨rfl, H5⟩
          obtain ⟨k0, k1, k2⟩ := Sts.box (L1 := []) H5
          dsimp only at k0 k1 k2
          replace H5 := Lib.hid H5
          go_wp2_with fail
          refine (putS (L1 := [(boxAt wr.heap.size, [⟨x.f0, 51, x.f2⟩])]) (L2 := [(.set h, []), (.set g, M ++ [⟨x.f0, 51, x.f2⟩])]) H5.out x.f0 (51) x.f2 hV1.out hV2.out (by omega)).mono ?_
          rintro e w5 ⟨rfl, H6⟩
          have H7 := H6.sub (List.sublist_cons_self _ _)
          replace H7 := Lib.hid H7
          clear H6
          go_wp2_with fail
          go_roundw
          case rel => exact ⟨k + 1, M ++ [⟨x.f0, 51, x.f2⟩], by omega, by go_num, by rw [List.length_append, hMl.out]; rfl, snocB hM.out hVl.out, (show Sts w w5 [(.set u, M ++ [(⟨x.f0, 51, x.f2⟩ : S30)]), (.set h, []), (.set g, M ++ [(⟨x.f0, 51, x.f2⟩ : S30)])] from H7.out)⟩
          case measure => simp [intOf]; omega
        · have h41 : x.f1 ≤ 40 := by omega
          have hW : wrap64 (51 + x.f1) = 51 + x.f1 := by unfold wrap64; omega
          have h00 : 0 < x.f1 := by omega
          have hV1 : (1 : Int) ≤ 51 + x.f1 := by omega
          have hV2 : 51 + x.f1 ≤ (100 : Int) := by omega
          have hVl : (51 : Int) ≤ 51 + x.f1 ∧ 51 + x.f1 ≤ (91 : Int) := by omega
          replace hV1 := Lib.hid hV1
          replace hV2 := Lib.hid hV2
          replace hVl := Lib.hid hVl
          go_wp2_with fail
          have H4 := HS.out.addBox x.f0 (51 + x.f1) x.f2
          replace H4 := Lib.hid H4
          refine (putS (L1 := [(boxAt wr.heap.size, [⟨x.f0, 51 + x.f1, x.f2⟩]), (.set u, M), (.set h, [])]) (L2 := []) H4.out x.f0 (51 + x.f1) x.f2 hV1.out hV2.out (by omega)).mono ?_
          rintro e w4 ⟨rfl, H5⟩
          obtain ⟨k0, k1, k2⟩ := Sts.box (L1 := []) H5
          dsimp only at k0 k1 k2
          replace H5 := Lib.hid H5
          go_wp2_with fail
          refine (putS (L1 := [(boxAt wr.heap.size, [⟨x.f0, 51 + x.f1, x.f2⟩])]) (L2 := [(.set h, []), (.set g, M ++ [⟨x.f0, 51 + x.f1, x.f2⟩])]) H5.out x.f0 (51 + x.f1) x.f2 hV1.out hV2.out (by omega)).mono ?_
          rintro e w5 ⟨rfl, H6⟩
          have H7 := H6.sub (List.sublist_cons_self _ _)
          replace H7 := Lib.hid H7
          clear H6
          go_wp2_with fail
          go_roundw
          case rel => exact ⟨k + 1, M ++ [⟨x.f0, 51 + x.f1, x.f2⟩], by omega, by go_num, by rw [List.length_append, hMl.out]; rfl, snocB hM.out hVl.out, (show Sts w w5 [(.set u, M ++ [(⟨x.f0, 51 + x.f1, x.f2⟩ : S30)]), (.set h, []), (.set g, M ++ [(⟨x.f0, 51 + x.f1, x.f2⟩ : S30)])] from H7.out)⟩
          case measure => simp [intOf]; omega
    · have e0 : ¬ ((k : Int) < (l.length : Int)) := by omega
      obtain rfl : k = l.length := by omega
      have hMl30 : M.length ≤ 30 := by rw [hMl]; exact HL.out
      replace hM := Lib.hid hM
      replace hMl := Lib.hid hMl
      have hS0 := HS
      generalize hw3 : wr = wa at hS0
      have hS := hM
      generalize hMS : M = S at *
      have hMS' : S.length = l.length := hMl.out
      clear hk hlk e0 HS
      go_wp2_with fail
      go_loopw [10] (fun vi wr => PartRel2 w g h u S l'.length vi wr) (fun vi _ => l'.length - (intOf vi).toNat)
      case atStart => exact ⟨0, [], Nat.zero_le _, rfl, rfl, (by intro j hj; cases hj), by rw [List.append_nil]; exact hS0.out⟩
      case round =>
        obtain ⟨k, M, hk, rfl, hMl, hM, HS⟩ := hrel
        replace HS := Lib.hid HS
        by_cases hlk : k < l'.length
        · obtain ⟨ad, rfl, c0, c1, c2, hab⟩ := elemIn HR'.out HS.out.below k hlk
          have hkb : k < 30 := Nat.lt_of_lt_of_le hlk HL'.out
          have hlk' : (k : Int) < (l'.length : Int) := by omega
          generalize hx : l'.getD k z30 = x at *
          replace hx := Lib.hid hx
          replace hM := Lib.hid hM
          have hMk := hMl
          replace hMl := Lib.hid hMl
          by_cases h40 : 40 < x.f1
          · have h0 : ¬ x.f1 ≤ 0 := by omega
            have hV1 : (1 : Int) ≤ 41 := by omega
            have hV2 : 41 ≤ (100 : Int) := by omega
            have hVl : (1 : Int) ≤ 41 ∧ 41 ≤ (41 : Int) := by omega
            replace hV1 := Lib.hid hV1
            replace hV2 := Lib.hid hV2
            replace hVl := Lib.hid hVl
            go_wp2_with fail
            have H4 := HS.out.addBox x.f0 (41) x.f2
            replace H4 := Lib.hid H4
            refine (putS (L1 := [(boxAt wr.heap.size, [⟨x.f0, 41, x.f2⟩]), (.set u, S ++ M)]) (L2 := [(.set g, S)]) H4.out x.f0 (41) x.f2 hV1.out hV2.out (by omega)).mono ?_
            rintro e w4 ⟨rfl, H5⟩
            obtain ⟨k0, k1, k2⟩ := Sts.box (L1 := []) H5
            dsimp only at k0 k1 k2
            replace H5 := Lib.hid H5
            go_wp2_with fail
            refine (putS (L1 := [(boxAt wr.heap.size, [⟨x.f0, 41, x.f2⟩])]) (L2 := [(.set h, M ++ [⟨x.f0, 41, x.f2⟩]), (.set g, S)]) H5.out x.f0 (41) x.f2 hV1.out hV2.out (by rw [List.length_append]; omega)).mono ?_
            rintro e w5 ⟨rfl, H6⟩
            have H7 := H6.sub (List.sublist_cons_self _ _)
            replace H7 := Lib.hid H7
            clear H6
            go_wp2_with fail
            go_roundw
            case rel => exact ⟨k + 1, M ++ [⟨x.f0, 41, x.f2⟩], by omega, by go_num, by rw [List.length_append, hMl.out]; rfl, snocB hM.out hVl.out, by rw [← List.append_assoc]; exact H7.out⟩
            case measure => simp [intOf]; omega
          · by_cases h0 : x.f1 ≤ 0
            · have h41 : x.f1 ≤ 40 := by omega
              have hV1 : (1 : Int) ≤ 1 := by omega
              have hV2 : 1 ≤ (100 : Int) := by omega
              have hVl : (1 : Int) ≤ 1 ∧ 1 ≤ (41 : Int) := by omega
              replace hV1 := Lib.hid hV1
              replace hV2 := Lib.hid hV2
              replace hVl := Lib.hid hVl
              go_wp2_with fail
              have H4 := HS.out.addBox x.f0 (1) x.f2
              replace H4 := Lib.hid H4
              refine (putS (L1 := [(boxAt wr.heap.size, [⟨x.f0, 1, x.f2⟩]), (.set u, S ++ M)]) (L2 := [(.set g, S)]) H4.out x.f0 (1) x.f2 hV1.out hV2.out (by omega)).mono ?_
              rintro e w4 ⟨rfl, H5⟩
              obtain ⟨k0, k1, k2⟩ := Sts.box (L1 := []) H5
              dsimp only at k0 k1 k2
              replace H5 := Lib.hid H5
              go_wp2_with fail
              refine (putS (L1 := [(boxAt wr.heap.size, [⟨x.f0, 1, x.f2⟩])]) (L2 := [(.set h, M ++ [⟨x.f0, 1, x.f2⟩]), (.set g, S)]) H5.out x.f0 (1) x.f2 hV1.out hV2.out (by rw [List.length_append]; omega)).mono ?_
              rintro e w5 ⟨rfl, H6⟩
              have H7 := H6.sub (List.sublist_cons_self _ _)
              replace H7 := Lib.hid H7
              clear H6
              go_wp2_with fail
              go_roundw
              case rel => exact ⟨k + 1, M ++ [⟨x.f0, 1, x.f2⟩], by omega, by go_num, by rw [List.length_append, hMl.out]; rfl, snocB hM.out hVl.out, by rw [← List.append_assoc]; exact H7.out⟩
              case measure => simp [intOf]; omega
            · have h41 : x.f1 ≤ 40 := by omega
              have hW : wrap64 (1 + x.f1) = 1 + x.f1 := by unfold wrap64; omega
              have h00 : 0 < x.f1 := by omega
              have hV1 : (1 : Int) ≤ 1 + x.f1 := by omega
              have hV2 : 1 + x.f1 ≤ (100 : Int) := by omega
              have hVl : (1 : Int) ≤ 1 + x.f1 ∧ 1 + x.f1 ≤ (41 : Int) := by omega
              replace hV1 := Lib.hid hV1
              replace hV2 := Lib.hid hV2
              replace hVl := Lib.hid hVl
              go_wp2_with fail
              have H4 := HS.out.addBox x.f0 (1 + x.f1) x.f2
              replace H4 := Lib.hid H4
              refine (putS (L1 := [(boxAt wr.heap.size, [⟨x.f0, 1 + x.f1, x.f2⟩]), (.set u, S ++ M)]) (L2 := [(.set g, S)]) H4.out x.f0 (1 + x.f1) x.f2 hV1.out hV2.out (by omega)).mono ?_
              rintro e w4 ⟨rfl, H5⟩
              obtain ⟨k0, k1, k2⟩ := Sts.box (L1 := []) H5
              dsimp only at k0 k1 k2
              replace H5 := Lib.hid H5
              go_wp2_with fail
              refine (putS (L1 := [(boxAt wr.heap.size, [⟨x.f0, 1 + x.f1, x.f2⟩])]) (L2 := [(.set h, M ++ [⟨x.f0, 1 + x.f1, x.f2⟩]), (.set g, S)]) H5.out x.f0 (1 + x.f1) x.f2 hV1.out hV2.out (by rw [List.length_append]; omega)).mono ?_
              rintro e w5 ⟨rfl, H6⟩
              have H7 := H6.sub (List.sublist_cons_self _ _)
              replace H7 := Lib.hid H7
              clear H6
              go_wp2_with fail
              go_roundw
              case rel => exact ⟨k + 1, M ++ [⟨x.f0, 1 + x.f1, x.f2⟩], by omega, by go_num, by rw [List.length_append, hMl.out]; rfl, snocB hM.out hVl.out, by rw [← List.append_assoc]; exact H7.out⟩
              case measure => simp [intOf]; omega
        · have e0 : ¬ ((k : Int) < (l'.length : Int)) := by omega
          obtain rfl : k = l'.length := by omega
          have hMl2 := hMl
          have hn60 : S.length + M.length = l.length + l'.length := by rw [hMl2, hMS']
          have hnn : l.length + l'.length ≤ 60 := by have := HL.out; have := HL'.out; omega
          have hwl : wrap64 ((l.length : Int) + (l'.length : Int)) = ((l.length + l'.length : Nat) : Int) := by rw [wrapIn (by omega)]; omega
          clear hk hlk e0 hMl hMl2
          have HS3 := HS
          clear HS
          have hM' := hM
          replace hM' := Lib.hid hM'
          generalize hN3 : M = N3 at HS3 hM' hn60
          clear hM
          go_wp2_with fail
          generalize hnl : l.length + l'.length = n at *
          go_loopw [12] (fun vi wr => PartRel3 w g h u n vi wr) (fun vi _ => n - (intOf vi).toNat)
          case atStart => exact ⟨0, S, N3, by omega, rfl, hS.out, hM'.out, HS3.out⟩
          case round =>
            obtain ⟨k, ms, ns, hk, rfl, hms, hns, HP⟩ := hrel
            replace HP := Lib.hid HP
            have hul : (ms ++ ns).length ≤ 10000 := by rw [List.length_append]; omega
            have hkb : k ≤ 60 := by omega
            by_cases hlk : k < n
            · have hlk' : (k : Int) < (n : Int) := by omega
              by_cases hz : ms = []
              · subst hz
                have hne : ns ≠ [] := by
                  rintro rfl
                  simp at hk
                  omega
                have hgd : Good ns := fun j hj => ⟨(hns j hj).1, by have := (hns j hj).2; omega⟩
                have p1 := mxp_pos hgd hne
                have p2 := places_pos p1
                obtain ⟨p7, p6, p8⟩ := pick_spec ns (k : Int) p2
                clear p7 p8
                rw [List.nil_append] at HP hul
                have hT : ∀ (W : World) (gg : Nat) (L1 L2 : List (Key × List S30)), Sts w W (L1 ++ (.set gg, ns) :: L2) → Calls Try.prog 14 #[.pointer (some ⟨gg, 0, none⟩), .int .i64 0, .int .i64 (k : Int)] W fun e w' => e = .returned (.tuple #[.agg #[.int .i64 (ns.getD (pickPlace ns k) z30).f0, .int .i64 (ns.getD (pickPlace ns k) z30).f1, .int .i64 (ns.getD (pickPlace ns k) z30).f2], .bool true]) ∧ Sts w w' (L1 ++ (.set gg, ns.eraseIdx (pickPlace ns k)) :: L2) := by
                  intro W gg L1 L2 hst
                  exact takeS hst hul 0 (k : Int) p2 p1
                have hns2 : ∀ j ∈ ns.eraseIdx (pickPlace ns k), 1 ≤ j.f1 ∧ j.f1 ≤ 41 := fun j hj => hns j (List.mem_of_mem_eraseIdx hj)
                have hlen2 : ([] : List S30).length + (ns.eraseIdx (pickPlace ns k)).length + (k + 1) = n := by rw [List.length_eraseIdx_of_lt p6]; simp at hk ⊢; omega
                generalize (ns.getD (pickPlace ns k) z30).f0 = x0 at *
                generalize (ns.getD (pickPlace ns k) z30).f1 = x1 at *
                generalize (ns.getD (pickPlace ns k) z30).f2 = x2 at *
                generalize ns.eraseIdx (pickPlace ns k) = me at *
                clear p1 p2 p6 hns hgd hne hk hul
                replace hT := Lib.hid hT
                replace hns2 := Lib.hid hns2
                go_wp2_with fail
                refine (hT.out _ u [] _ HP.out).mono ?_
                rintro e w4 ⟨rfl, H4⟩
                have H5 := H4.addBox x0 x1 x2
                replace H5 := Lib.hid H5
                clear H4
                go_wp2_with fail
                refine (takeNoS (L1 := [(boxAt w4.heap.size, [⟨x0, x1, x2⟩]), (.set u, me), (.set h, ns)]) (L2 := []) (l := []) H5.out (by decide) 0 (k : Int) (.inr (by decide))).mono ?_
                rintro e w5 ⟨rfl, H6⟩
                have H7 := H6.addBox 0 0 0
                replace H7 := Lib.hid H7
                clear H6
                go_wp2_with fail
                refine (hT.out _ h [(boxAt w5.heap.size, [⟨0, 0, 0⟩]), (boxAt w4.heap.size, [⟨x0, x1, x2⟩]), (.set u, me)] [(.set g, [])] H7.out).mono ?_
                rintro e w6 ⟨rfl, H8⟩
                have H9 := H8.addBox x0 x1 x2
                obtain ⟨y0, y1, y2⟩ := Sts.box (L1 := [(boxAt w6.heap.size, [⟨x0, x1, x2⟩])]) H9
                obtain ⟨_, hfr⟩ := Sts.boxBlk (L1 := [(boxAt w6.heap.size, [⟨x0, x1, x2⟩])]) H9
                obtain ⟨z0, z1, z2⟩ := Sts.box (L1 := []) H9
                have H10 := Sts.setBox (L1 := [(boxAt w6.heap.size, [⟨x0, x1, x2⟩])]) H9 x0 x1 x2
                obtain ⟨k0, k1, k2⟩ := Sts.box (L1 := [(boxAt w6.heap.size, [⟨x0, x1, x2⟩])]) H10
                obtain ⟨k3, k4, k5⟩ := Sts.box (L1 := [(boxAt w6.heap.size, [⟨x0, x1, x2⟩]), (boxAt w5.heap.size, [⟨x0, x1, x2⟩])]) H10
                dsimp only at k0 k1 k2 k3 k4 k5 y0 y1 y2 z0 z1 z2
                have HX : Sts w _ [(.set u, me), (.set h, me), (.set g, [])] := H10.sub ((((List.Sublist.refl _).cons _).cons _).cons _)
                replace HX := Lib.hid HX
                clear H8 H9 H10
                go_wp2_with fail
                go_roundw
                case rel => exact ⟨k + 1, [], me, hlen2, by go_num, hms, hns2.out, HX.out⟩
                case measure => simp [intOf]; omega
              · obtain ⟨p1, p2, p3, p4, p5, p6, p7, p8⟩ := parts_pick hms hns hz (k : Int)
                have hTu : ∀ (W : World) (L1 L2 : List (Key × List S30)), Sts w W (L1 ++ (.set u, ms ++ ns) :: L2) → Calls Try.prog 14 #[.pointer (some ⟨u, 0, none⟩), .int .i64 0, .int .i64 (k : Int)] W fun e w' => e = .returned (.tuple #[.agg #[.int .i64 (ms.getD (pickPlace ms k) z30).f0, .int .i64 (ms.getD (pickPlace ms k) z30).f1, .int .i64 (ms.getD (pickPlace ms k) z30).f2], .bool true]) ∧ Sts w w' (L1 ++ (.set u, ms.eraseIdx (pickPlace ms k) ++ ns) :: L2) := by
                  intro W L1 L2 hst
                  have := takeS hst hul 0 (k : Int) p4 p3
                  rw [p5, p7, p8] at this
                  exact this
                have hTs : ∀ (W : World) (L1 L2 : List (Key × List S30)), Sts w W (L1 ++ (.set g, ms) :: L2) → Calls Try.prog 14 #[.pointer (some ⟨g, 0, none⟩), .int .i64 0, .int .i64 (k : Int)] W fun e w' => e = .returned (.tuple #[.agg #[.int .i64 (ms.getD (pickPlace ms k) z30).f0, .int .i64 (ms.getD (pickPlace ms k) z30).f1, .int .i64 (ms.getD (pickPlace ms k) z30).f2], .bool true]) ∧ Sts w w' (L1 ++ (.set g, ms.eraseIdx (pickPlace ms k)) :: L2) := by
                  intro W L1 L2 hst
                  exact takeS hst (by rw [List.length_append] at hul; omega) 0 (k : Int) p2 p1
                have hms2 : ∀ j ∈ ms.eraseIdx (pickPlace ms k), 51 ≤ j.f1 ∧ j.f1 ≤ 91 := fun j hj => hms j (List.mem_of_mem_eraseIdx hj)
                have hlen2 : (ms.eraseIdx (pickPlace ms k)).length + ns.length + (k + 1) = n := by rw [List.length_eraseIdx_of_lt p6]; omega
                generalize (ms.getD (pickPlace ms k) z30).f0 = x0 at *
                generalize (ms.getD (pickPlace ms k) z30).f1 = x1 at *
                generalize (ms.getD (pickPlace ms k) z30).f2 = x2 at *
                generalize ms.eraseIdx (pickPlace ms k) = me at *
                clear p1 p2 p3 p4 p5 p6 p7 p8 hms hz hk hul
                replace hTu := Lib.hid hTu
                replace hTs := Lib.hid hTs
                replace hms2 := Lib.hid hms2
                replace hns := Lib.hid hns
                go_wp2_with fail
                refine (hTu.out _ [] _ HP.out).mono ?_
                rintro e w4 ⟨rfl, H4⟩
                have H5 := H4.addBox x0 x1 x2
                replace H5 := Lib.hid H5
                clear H4
                go_wp2_with fail
                refine (hTs.out _ [(boxAt w4.heap.size, [⟨x0, x1, x2⟩]), (.set u, me ++ ns), (.set h, ns)] [] H5.out).mono ?_
                rintro e w5 ⟨rfl, H6⟩
                have H7 := H6.addBox x0 x1 x2
                obtain ⟨k0, k1, k2⟩ := Sts.box (L1 := []) H7
                obtain ⟨k3, k4, k5⟩ := Sts.box (L1 := [(boxAt w5.heap.size, [⟨x0, x1, x2⟩])]) H7
                dsimp only at k0 k1 k2 k3 k4 k5
                have HX : Sts w _ [(.set u, me ++ ns), (.set h, ns), (.set g, me)] := H7.sub (((List.Sublist.refl _).cons _).cons _)
                replace HX := Lib.hid HX
                clear H6 H7
                go_wp2_with fail
                go_roundw
                case rel => exact ⟨k + 1, me, ns, hlen2, by go_num, hms2.out, hns.out, HX.out⟩
                case measure => simp [intOf]; omega
            · have e0 : ¬ ((k : Int) < (n : Int)) := by omega
              obtain ⟨rfl, rfl⟩ : ms = [] ∧ ns = [] := ⟨List.eq_nil_of_length_eq_zero (by omega), List.eq_nil_of_length_eq_zero (by omega)⟩
              go_wp2_with fail
              refine (allS (L1 := []) (L2 := [(.set h, []), (.set g, [])]) (l := []) HP.out (by decide)).mono ?_
              rintro e w8 ⟨A8, c8, hc8, rfl, H8⟩
              replace H8 := Lib.hid H8
              go_wp2_with fail
              refine (known_walk _).mono ?_
              rintro e wk ⟨rfl, hb⟩
              have HZ := H8.out.below.trans (hb.mono H8.out.size)
              replace HZ := Lib.hid HZ
              clear hb
              go_wp2_with fail
              go_ret
              exact ⟨rfl, HZ.out⟩
theorem parts_any (A : Option Addr) (c : Nat) (l : List S30) (A' : Option Addr) (c' : Nat) (l' : List S30) (w : World) (hr : Kd.C k30 w A l.length l) (hr' : Kd.C k30 w A' l'.length l') : Calls Try.prog 9 #[.slice A l.length c, .slice A' l'.length c'] w fun e w' => e = .returned (.bool true) ∧ Below w.heap.size w w' := by
  by_cases h1 : 30 < l.length
  · have e1 : decide ((30 : Int) < (l.length : Int)) = true := decide_eq_true (by omega)
    clear h1 hr hr'
    have H0 : Sts w w [] := Sts.empty (Below.refl _ _)
    replace H0 := Lib.hid H0
    go_enter Try.func9, Try.ntmps9
    go_wp2_with fail
    refine (newS H0.out).mono ?_
    rintro e w1 ⟨g, rfl, H1⟩
    replace H1 := Lib.hid H1
    go_wp2_with fail
    refine (newS H1.out).mono ?_
    rintro e w2 ⟨h, rfl, H2⟩
    replace H2 := Lib.hid H2
    go_wp2_with fail
    refine (newS H2.out).mono ?_
    rintro e w3 ⟨u, rfl, H3⟩
    replace H3 := Lib.hid H3
    go_wp2_with fail
    refine (known_walk _).mono ?_
    rintro e wk ⟨rfl, hb⟩
    have HZ := H3.out.below.trans (hb.mono H3.out.size)
    replace HZ := Lib.hid HZ
    clear hb
    go_wp2_with fail
    go_ret
    exact ⟨rfl, HZ.out⟩
  have e1 : decide ((30 : Int) < (l.length : Int)) = false := decide_eq_false (by omega)
  by_cases h2 : 30 < l'.length
  · have e2 : decide ((30 : Int) < (l'.length : Int)) = true := decide_eq_true (by omega)
    clear h1 h2 hr hr'
    have H0 : Sts w w [] := Sts.empty (Below.refl _ _)
    replace H0 := Lib.hid H0
    go_enter Try.func9, Try.ntmps9
    go_wp2_with fail
    refine (newS H0.out).mono ?_
    rintro e w1 ⟨g, rfl, H1⟩
    replace H1 := Lib.hid H1
    go_wp2_with fail
    refine (newS H1.out).mono ?_
    rintro e w2 ⟨h, rfl, H2⟩
    replace H2 := Lib.hid H2
    go_wp2_with fail
    refine (newS H2.out).mono ?_
    rintro e w3 ⟨u, rfl, H3⟩
    replace H3 := Lib.hid H3
    go_wp2_with fail
    refine (known_walk _).mono ?_
    rintro e wk ⟨rfl, hb⟩
    have HZ := H3.out.below.trans (hb.mono H3.out.size)
    replace HZ := Lib.hid HZ
    clear hb
    go_wp2_with fail
    go_ret
    exact ⟨rfl, HZ.out⟩
  exact parts_walk A c l A' c' l' w (by omega) (by omega) hr hr'
end Go.Proofs.Ytojdbpeaclnmkaa.Rd
