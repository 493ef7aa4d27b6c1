/- The walk of camshaftlaw17.known: what must come of the fixed calls comes of them; nothing that was there is turned. -/
import Derived.Test.YtojdbpeaclnmkaaSts
set_option linter.unusedVariables false
set_option linter.unusedSimpArgs false
namespace Go.Proofs.Ytojdbpeaclnmkaa.Rd
open Go Go.RowKit Go.Proofs.YtojdbpeaclnmkaaW.PrintWords Go.Proofs.YtojdbpeaclnmkaaW.PrintLast Go.Proofs.YtojdbpeaclnmkaaW.PrintMore Go.Proofs.Ytojdbpeaclnmkaa Go.Proofs.Ytojdbpeaclnmkaa.Print
def j1 : S30 := ⟨1, 2, 0⟩
def j2 : S30 := ⟨2, 5, 0⟩
def j3 : S30 := ⟨3, 5, 0⟩
set_option maxRecDepth 100000 in
set_option maxHeartbeats 1000000 in
theorem known_walk (w : World) : Calls Try.prog 22 #[] w fun e w' => e = .returned (.bool true) ∧ Below w.heap.size w w' := by
  have H0 : Sts w w [] := Sts.empty (Below.refl _ _)
  replace H0 := Lib.hid H0
  have TA : ∀ W g, Sts w W [(.set g, [j1, j2, j3])] → Calls Try.prog 14 #[.pointer (some ⟨g, 0, none⟩), .int .i64 4, .int .i64 3] W fun e w' => e = .returned (.tuple #[.agg #[.int .i64 3, .int .i64 5, .int .i64 0], .bool true]) ∧ Sts w w' [(.set g, [j1, j2])] := fun W g h => takeS (L1 := []) (L2 := []) h (by decide) 4 3 (by decide) (by decide)
  have TB : ∀ W g b, Sts w W [(boxAt b, [j3]), (.set g, [j1, j2])] → Calls Try.prog 14 #[.pointer (some ⟨g, 0, none⟩), .int .i64 0, .int .i64 (-1)] W fun e w' => e = .returned (.tuple #[.agg #[.int .i64 2, .int .i64 5, .int .i64 0], .bool true]) ∧ Sts w w' [(boxAt b, [j3]), (.set g, [j1])] := fun W g b h => takeS (L1 := [(boxAt b, [j3])]) (L2 := []) h (by decide) 0 (-1) (by decide) (by decide)
  have TC : ∀ W g L, Sts w W (L ++ [(.set g, [j1])]) → Calls Try.prog 20 #[.pointer (some ⟨g, 0, none⟩)] W fun e w' => e = .returned (.int .i64 2) ∧ Sts w w' (L ++ [(.set g, [j1])]) := fun W g L h => bestS (L1 := L) (L2 := []) h (by decide)
  have TD : ∀ W g L, Sts w W (L ++ [(.set g, [j1])]) → Calls Try.prog 19 #[.pointer (some ⟨g, 0, none⟩)] W fun e w' => ∃ A c, 1 ≤ c ∧ e = .returned (.slice A 1 c) ∧ Sts w w' ((.row (.slice A 1 c), [j1]) :: (L ++ [(.set g, [j1])])) := fun W g L h => allS (L1 := L) (L2 := []) h (by decide)
  have TE : ∀ W g L, Sts w W (L ++ [(.set g, [j1])]) → Calls Try.prog 16 #[.pointer (some ⟨g, 0, none⟩)] W fun e w' => ∃ g', e = .returned (.pointer (some ⟨g', 0, none⟩)) ∧ Sts w w' ((.set g', [j1]) :: (L ++ [(.set g, [j1])])) := fun W g L h => copyS (L1 := L) (L2 := []) h (by decide)
  replace TE := Lib.hid TE
  replace TA := Lib.hid TA
  replace TB := Lib.hid TB
  replace TC := Lib.hid TC
  replace TD := Lib.hid TD
  go_enter Try.func22, Try.ntmps22
  go_wp2_with fail
  refine (newS H0.out).mono ?_
  rintro e w1 ⟨g, rfl, H1⟩
  replace H1 := Lib.hid H1
  go_wp2_with fail
  refine (putS (L1 := []) (L2 := []) H1.out 1 2 0 (by decide) (by decide) (by decide)).mono ?_
  rintro e w2 ⟨rfl, H2⟩
  replace H2 := Lib.hid H2
  go_wp2_with fail
  refine (putS (L1 := []) (L2 := []) H2.out 2 5 0 (by decide) (by decide) (by decide)).mono ?_
  rintro e w3 ⟨rfl, H3⟩
  replace H3 := Lib.hid H3
  go_wp2_with fail
  refine (putS (L1 := []) (L2 := []) H3.out 3 5 0 (by decide) (by decide) (by decide)).mono ?_
  rintro e w4 ⟨rfl, H4⟩
  replace H4 := Lib.hid H4
  go_wp2_with fail
  refine (putNo H4.out 4 0 0 (by decide) g).mono ?_
  rintro e w5 ⟨rfl, H5⟩
  replace H5 := Lib.hid H5
  go_wp2_with fail
  refine (takeNoS (L1 := []) (L2 := []) H5.out (by decide) 5 0 (by decide)).mono ?_
  rintro e w6 ⟨rfl, H6⟩
  replace H6 := Lib.hid H6
  go_wp2_with fail
  refine (TA.out _ g (H6.out.step (by repeat (first | exact Below.refl _ _ | (with_reducible first | apply below_alloc | apply pw_below_drewN | apply below_drew1))))).mono ?_
  rintro e w7 ⟨rfl, H7⟩
  replace H7 := Lib.hid H7
  go_wp2_with fail
  have H7b : Sts w _ [(boxAt w7.heap.size, [j3]), (.set g, [j1, j2])] := H7.out.addBox 3 5 0
  refine (TB.out _ g _ H7b).mono ?_
  clear H7b
  rintro e w8 ⟨rfl, H8⟩
  have H8b : Sts w _ [(boxAt w8.heap.size, [j2]), (boxAt w7.heap.size, [j3]), (.set g, [j1])] := H8.addBox 2 5 0
  obtain ⟨c0, _, _⟩ := Sts.box (L1 := [(boxAt w8.heap.size, [j2])]) (L2 := [(.set g, [j1])]) H8b
  obtain ⟨d0, _, _⟩ := Sts.box (L1 := []) H8b
  replace H8b := Lib.hid H8b
  clear H8
  replace c0 : _ = some (Value.int .i64 3) := c0
  replace d0 : _ = some (Value.int .i64 2) := d0
  go_wp2_with fail
  refine (TC.out _ g [(boxAt w8.heap.size, [j2]), (boxAt w7.heap.size, [j3])] H8b.out).mono ?_
  rintro e w9 ⟨rfl, H9⟩
  replace H9 := Lib.hid H9
  go_wp2_with fail
  refine (TD.out _ g _ H9.out).mono ?_
  rintro e w10 ⟨A, c, _, rfl, H10⟩
  replace H10 := Lib.hid H10
  go_wp2_with fail
  refine (TE.out _ g _ (H10.out.sub (List.sublist_cons_self _ _))).mono ?_
  rintro e w11 ⟨g', rfl, H11⟩
  replace H11 := Lib.hid H11
  go_wp2_with fail
  go_ret
  exact ⟨rfl, H11.out.below⟩
end Go.Proofs.Ytojdbpeaclnmkaa.Rd
