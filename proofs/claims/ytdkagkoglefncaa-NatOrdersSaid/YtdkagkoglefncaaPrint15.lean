/- WRITTEN BY A PROGRAM OF THE SESSION out of the translation: functions in plain Lean, and that the calls come to just these answers; Lean checks every line. -/
import Derived.Test.YtdkagkoglefncaaPrint0
import Derived.Test.YtdkagkoglefncaaPrint1
import Derived.Test.YtdkagkoglefncaaPrint3
import Derived.Test.YtdkagkoglefncaaPrint4
import Derived.Test.YtdkagkoglefncaaPrint7
namespace Go.Proofs.Ytdkagkoglefncaa.Print
open Go.RowKit Go.Proofs.YtdkagkoglefncaaW.PrintWords Go.Proofs.YtdkagkoglefncaaW.PrintLast Go.Proofs.YtdkagkoglefncaaW.PrintMore
attribute [local go_sem] max2_int min2_int max_two min_two max_three min_three max_four min_four   -- for this text's walks alone
set_option linter.unusedVariables false
set_option linter.unusedSimpArgs false

/-! ### camshaftlaw10_NatOrders: function 4 -/
mutual
def camshaftlaw10_NatOrders.j0 : Nat → Int → Int → Int → Int → Int → Int → Int → Int → Int → Bool → Option (Bool)
  | 0, _, _, _, _, _, _, _, _, _, _ => none
  | k + 1, x0, x1, x2, x7, x8, x11, x12, x13, x14, x82 => if x82 = true then (some false) else (if x8 = 0 then (if x12 = 0 then (if x14 = 0 then (if x13 = x7 then (if (wrap64 (x7 - x2)) = x11 then (camshaftlaw10_NatOrders.j1 k x0 ((wrap64 ((wrap64 (x7 - x1)) - x2)) != x0)) else (camshaftlaw10_NatOrders.j1 k x0 true)) else (camshaftlaw10_NatOrders.j1 k x0 true)) else (camshaftlaw10_NatOrders.j1 k x0 true)) else (camshaftlaw10_NatOrders.j1 k x0 true)) else (camshaftlaw10_NatOrders.j1 k x0 false))
def camshaftlaw10_NatOrders.j1 : Nat → Int → Bool → Option (Bool)
  | 0, _, _ => none
  | k + 1, x0, x113 => if x113 = true then (some false) else ((nat_Mul.f k x0 1).bind fun bt169 => ((nat_Mul.f k x0 0).bind fun bt171 => ((nat_Right.f x0).bind fun t173 => (if (t173 == (bt169.2 == 0)) = true then (if bt169.2 = 0 then (if bt169.1 = x0 then (if bt171.1 = 0 then (if bt171.2 = 0 then ((camshaftlaw10_known.f).bind fun t174 => (some t174)) else (some false)) else (some false)) else (some false)) else ((camshaftlaw10_known.f).bind fun t175 => (some t175))) else (some false)))))
end
def camshaftlaw10_NatOrders.f (k : Nat) (a0 : Int) (a1 : Int) (a2 : Int) : Option (Bool) := (nat_Add.f k (([a0, a1, a2] : List Int))).bind fun bt148 => ((nat_Add.f k (([a2, a0, a1] : List Int))).bind fun bt153 => ((nat_Add.f k (([a0, a1] : List Int))).bind fun bt158 => ((nat_Add.f k (([bt158.1, a2] : List Int))).bind fun bt163 => ((nat_Mul.f k a0 a1).bind fun bt165 => ((nat_Mul.f k a1 a0).bind fun bt167 => (if bt148.1 = bt153.1 then (if bt148.2 = bt153.2 then (if bt165.1 = bt167.1 then (camshaftlaw10_NatOrders.j0 k a0 a1 a2 bt148.1 bt148.2 bt158.1 bt158.2 bt163.1 bt163.2 (bt165.2 != bt167.2)) else (camshaftlaw10_NatOrders.j0 k a0 a1 a2 bt148.1 bt148.2 bt158.1 bt158.2 bt163.1 bt163.2 true)) else (camshaftlaw10_NatOrders.j0 k a0 a1 a2 bt148.1 bt148.2 bt158.1 bt158.2 bt163.1 bt163.2 true)) else (camshaftlaw10_NatOrders.j0 k a0 a1 a2 bt148.1 bt148.2 bt158.1 bt158.2 bt163.1 bt163.2 true)))))))
theorem camshaftlaw10_NatOrders.mono_l : ∀ k, (∀ y0 y1 y2 y3 y4 y5 y6 y7 y8 y9, LeO (camshaftlaw10_NatOrders.j0 k y0 y1 y2 y3 y4 y5 y6 y7 y8 y9) (camshaftlaw10_NatOrders.j0 (k + 1) y0 y1 y2 y3 y4 y5 y6 y7 y8 y9)) ∧ (∀ y0 y1, LeO (camshaftlaw10_NatOrders.j1 k y0 y1) (camshaftlaw10_NatOrders.j1 (k + 1) y0 y1))
  | 0 => ⟨fun _ _ _ _ _ _ _ _ _ _ r h => by simp [camshaftlaw10_NatOrders.j0] at h, fun _ _ r h => by simp [camshaftlaw10_NatOrders.j1] at h⟩
  | k + 1 => by
    obtain ⟨ih0, ih1⟩ := camshaftlaw10_NatOrders.mono_l k
    refine ⟨?_, ?_⟩
    · intro y0 y1 y2 y3 y4 y5 y6 y7 y8 y9
      unfold camshaftlaw10_NatOrders.j0
      repeat' first
      | (with_reducible exact ih0 _ _ _ _ _ _ _ _ _ _)
      | (with_reducible exact ih1 _ _)
      | (with_reducible exact nat_Add.mono _ _)
      | (with_reducible exact nat_Mul.mono _ _ _)
      | (with_reducible exact LeO.refl _)
      | (with_reducible exact LeO.none _)
      | (with_reducible refine LeO.ite ?_ ?_)
      | (with_reducible refine LeO.bind ?_ (fun _ => ?_))
      | exact ih0 _ _ _ _ _ _ _ _ _ _
      | exact ih1 _ _
      | exact nat_Add.mono _ _
      | exact nat_Mul.mono _ _ _
      | exact LeO.none _
      | refine LeO.ite ?_ ?_
      | refine LeO.bind ?_ (fun _ => ?_)
    · intro y0 y1
      unfold camshaftlaw10_NatOrders.j1
      repeat' first
      | (with_reducible exact ih0 _ _ _ _ _ _ _ _ _ _)
      | (with_reducible exact ih1 _ _)
      | (with_reducible exact nat_Add.mono _ _)
      | (with_reducible exact nat_Mul.mono _ _ _)
      | (with_reducible exact LeO.refl _)
      | (with_reducible exact LeO.none _)
      | (with_reducible refine LeO.ite ?_ ?_)
      | (with_reducible refine LeO.bind ?_ (fun _ => ?_))
      | exact ih0 _ _ _ _ _ _ _ _ _ _
      | exact ih1 _ _
      | exact nat_Add.mono _ _
      | exact nat_Mul.mono _ _ _
      | exact LeO.none _
      | refine LeO.ite ?_ ?_
      | refine LeO.bind ?_ (fun _ => ?_)
theorem camshaftlaw10_NatOrders.mono : ∀ a0 a1 a2 k, LeO (camshaftlaw10_NatOrders.f k a0 a1 a2) (camshaftlaw10_NatOrders.f (k + 1) a0 a1 a2) := by
  intro a0 a1 a2 k
  obtain ⟨ih0, ih1⟩ := camshaftlaw10_NatOrders.mono_l k
  unfold camshaftlaw10_NatOrders.f
  repeat' first
      | (with_reducible exact ih0 _ _ _ _ _ _ _ _ _ _)
      | (with_reducible exact ih1 _ _)
      | (with_reducible exact nat_Add.mono _ _)
      | (with_reducible exact nat_Mul.mono _ _ _)
      | (with_reducible exact LeO.refl _)
      | (with_reducible exact LeO.none _)
      | (with_reducible refine LeO.ite ?_ ?_)
      | (with_reducible refine LeO.bind ?_ (fun _ => ?_))
      | exact ih0 _ _ _ _ _ _ _ _ _ _
      | exact ih1 _ _
      | exact nat_Add.mono _ _
      | exact nat_Mul.mono _ _ _
      | exact LeO.none _
      | refine LeO.ite ?_ ?_
      | refine LeO.bind ?_ (fun _ => ?_)
set_option maxHeartbeats 8000000 in
set_option maxRecDepth 100000 in
theorem camshaftlaw10_NatOrders.calls (k : Nat) (a0 : Int) (a1 : Int) (a2 : Int) (r : Bool) (w : World) (h : camshaftlaw10_NatOrders.f k a0 a1 a2 = some r) :
    Calls Try.prog 4 #[.int .i64 a0, .int .i64 a1, .int .i64 a2] w fun e w' => e = .returned (.bool r) ∧ Below w.heap.size w w' := by
  have HB := Aside0.mk (Below.refl w.heap.size w)
  have H : ((nat_Add.f k (([a0, a1, a2] : List Int))).bind fun bt148 => ((nat_Add.f k (([a2, a0, a1] : List Int))).bind fun bt153 => ((nat_Add.f k (([a0, a1] : List Int))).bind fun bt158 => ((nat_Add.f k (([bt158.1, a2] : List Int))).bind fun bt163 => ((nat_Mul.f k a0 a1).bind fun bt165 => ((nat_Mul.f k a1 a0).bind fun bt167 => (if bt148.1 = bt153.1 then (if bt148.2 = bt153.2 then (if bt165.1 = bt167.1 then (camshaftlaw10_NatOrders.j0 k a0 a1 a2 bt148.1 bt148.2 bt158.1 bt158.2 bt163.1 bt163.2 (bt165.2 != bt167.2)) else (camshaftlaw10_NatOrders.j0 k a0 a1 a2 bt148.1 bt148.2 bt158.1 bt158.2 bt163.1 bt163.2 true)) else (camshaftlaw10_NatOrders.j0 k a0 a1 a2 bt148.1 bt148.2 bt158.1 bt158.2 bt163.1 bt163.2 true)) else (camshaftlaw10_NatOrders.j0 k a0 a1 a2 bt148.1 bt148.2 bt158.1 bt158.2 bt163.1 bt163.2 true)))))))) = some r := h
  clear h
  obtain ⟨y145, hy145⟩ : ∃ y_ : List Int, y_ = (([a0, a1, a2] : List Int)) := ⟨_, rfl⟩
  replace H : ((nat_Add.f k y145).bind fun bt148 => ((nat_Add.f k (([a2, a0, a1] : List Int))).bind fun bt153 => ((nat_Add.f k (([a0, a1] : List Int))).bind fun bt158 => ((nat_Add.f k (([bt158.1, a2] : List Int))).bind fun bt163 => ((nat_Mul.f k a0 a1).bind fun bt165 => ((nat_Mul.f k a1 a0).bind fun bt167 => (if bt148.1 = bt153.1 then (if bt148.2 = bt153.2 then (if bt165.1 = bt167.1 then (camshaftlaw10_NatOrders.j0 k a0 a1 a2 bt148.1 bt148.2 bt158.1 bt158.2 bt163.1 bt163.2 (bt165.2 != bt167.2)) else (camshaftlaw10_NatOrders.j0 k a0 a1 a2 bt148.1 bt148.2 bt158.1 bt158.2 bt163.1 bt163.2 true)) else (camshaftlaw10_NatOrders.j0 k a0 a1 a2 bt148.1 bt148.2 bt158.1 bt158.2 bt163.1 bt163.2 true)) else (camshaftlaw10_NatOrders.j0 k a0 a1 a2 bt148.1 bt148.2 bt158.1 bt158.2 bt163.1 bt163.2 true)))))))) = some r := by first | (rw [hy145]; with_reducible exact H) | (have H2_ := (Option.bind_some _ _).symm.trans H; rw [hy145]; with_reducible exact H2_) | (have H2_ := (Option.bind_some _ _).symm.trans H; with_reducible exact H2_) | with_reducible exact H | (rw [hy145]; exact H) | exact H
  have Ny145 := Aside0.mk hy145
  clear hy145
  replace H := Option.bind_eq_some_iff.mp H
  obtain ⟨⟨t148, t149⟩, A40, H⟩ := H
  replace H : ((nat_Add.f k (([a2, a0, a1] : List Int))).bind fun bt153 => ((nat_Add.f k (([a0, a1] : List Int))).bind fun bt158 => ((nat_Add.f k (([bt158.1, a2] : List Int))).bind fun bt163 => ((nat_Mul.f k a0 a1).bind fun bt165 => ((nat_Mul.f k a1 a0).bind fun bt167 => (if t148 = bt153.1 then (if t149 = bt153.2 then (if bt165.1 = bt167.1 then (camshaftlaw10_NatOrders.j0 k a0 a1 a2 t148 t149 bt158.1 bt158.2 bt163.1 bt163.2 (bt165.2 != bt167.2)) else (camshaftlaw10_NatOrders.j0 k a0 a1 a2 t148 t149 bt158.1 bt158.2 bt163.1 bt163.2 true)) else (camshaftlaw10_NatOrders.j0 k a0 a1 a2 t148 t149 bt158.1 bt158.2 bt163.1 bt163.2 true)) else (camshaftlaw10_NatOrders.j0 k a0 a1 a2 t148 t149 bt158.1 bt158.2 bt163.1 bt163.2 true))))))) = some r := H
  have A4 := Aside0.mk A40
  clear A40
  obtain ⟨y150, hy150⟩ : ∃ y_ : List Int, y_ = (([a2, a0, a1] : List Int)) := ⟨_, rfl⟩
  replace H : ((nat_Add.f k y150).bind fun bt153 => ((nat_Add.f k (([a0, a1] : List Int))).bind fun bt158 => ((nat_Add.f k (([bt158.1, a2] : List Int))).bind fun bt163 => ((nat_Mul.f k a0 a1).bind fun bt165 => ((nat_Mul.f k a1 a0).bind fun bt167 => (if t148 = bt153.1 then (if t149 = bt153.2 then (if bt165.1 = bt167.1 then (camshaftlaw10_NatOrders.j0 k a0 a1 a2 t148 t149 bt158.1 bt158.2 bt163.1 bt163.2 (bt165.2 != bt167.2)) else (camshaftlaw10_NatOrders.j0 k a0 a1 a2 t148 t149 bt158.1 bt158.2 bt163.1 bt163.2 true)) else (camshaftlaw10_NatOrders.j0 k a0 a1 a2 t148 t149 bt158.1 bt158.2 bt163.1 bt163.2 true)) else (camshaftlaw10_NatOrders.j0 k a0 a1 a2 t148 t149 bt158.1 bt158.2 bt163.1 bt163.2 true))))))) = some r := by first | (rw [hy150]; with_reducible exact H) | (have H2_ := (Option.bind_some _ _).symm.trans H; rw [hy150]; with_reducible exact H2_) | (have H2_ := (Option.bind_some _ _).symm.trans H; with_reducible exact H2_) | with_reducible exact H | (rw [hy150]; exact H) | exact H
  have Ny150 := Aside0.mk hy150
  clear hy150
  replace H := Option.bind_eq_some_iff.mp H
  obtain ⟨⟨t153, t154⟩, A50, H⟩ := H
  replace H : ((nat_Add.f k (([a0, a1] : List Int))).bind fun bt158 => ((nat_Add.f k (([bt158.1, a2] : List Int))).bind fun bt163 => ((nat_Mul.f k a0 a1).bind fun bt165 => ((nat_Mul.f k a1 a0).bind fun bt167 => (if t148 = t153 then (if t149 = t154 then (if bt165.1 = bt167.1 then (camshaftlaw10_NatOrders.j0 k a0 a1 a2 t148 t149 bt158.1 bt158.2 bt163.1 bt163.2 (bt165.2 != bt167.2)) else (camshaftlaw10_NatOrders.j0 k a0 a1 a2 t148 t149 bt158.1 bt158.2 bt163.1 bt163.2 true)) else (camshaftlaw10_NatOrders.j0 k a0 a1 a2 t148 t149 bt158.1 bt158.2 bt163.1 bt163.2 true)) else (camshaftlaw10_NatOrders.j0 k a0 a1 a2 t148 t149 bt158.1 bt158.2 bt163.1 bt163.2 true)))))) = some r := H
  have A5 := Aside0.mk A50
  clear A50
  obtain ⟨y155, hy155⟩ : ∃ y_ : List Int, y_ = (([a0, a1] : List Int)) := ⟨_, rfl⟩
  replace H : ((nat_Add.f k y155).bind fun bt158 => ((nat_Add.f k (([bt158.1, a2] : List Int))).bind fun bt163 => ((nat_Mul.f k a0 a1).bind fun bt165 => ((nat_Mul.f k a1 a0).bind fun bt167 => (if t148 = t153 then (if t149 = t154 then (if bt165.1 = bt167.1 then (camshaftlaw10_NatOrders.j0 k a0 a1 a2 t148 t149 bt158.1 bt158.2 bt163.1 bt163.2 (bt165.2 != bt167.2)) else (camshaftlaw10_NatOrders.j0 k a0 a1 a2 t148 t149 bt158.1 bt158.2 bt163.1 bt163.2 true)) else (camshaftlaw10_NatOrders.j0 k a0 a1 a2 t148 t149 bt158.1 bt158.2 bt163.1 bt163.2 true)) else (camshaftlaw10_NatOrders.j0 k a0 a1 a2 t148 t149 bt158.1 bt158.2 bt163.1 bt163.2 true)))))) = some r := by first | (rw [hy155]; with_reducible exact H) | (have H2_ := (Option.bind_some _ _).symm.trans H; rw [hy155]; with_reducible exact H2_) | (have H2_ := (Option.bind_some _ _).symm.trans H; with_reducible exact H2_) | with_reducible exact H | (rw [hy155]; exact H) | exact H
  have Ny155 := Aside0.mk hy155
  clear hy155
  replace H := Option.bind_eq_some_iff.mp H
  obtain ⟨⟨t158, t159⟩, A60, H⟩ := H
  replace H : ((nat_Add.f k (([t158, a2] : List Int))).bind fun bt163 => ((nat_Mul.f k a0 a1).bind fun bt165 => ((nat_Mul.f k a1 a0).bind fun bt167 => (if t148 = t153 then (if t149 = t154 then (if bt165.1 = bt167.1 then (camshaftlaw10_NatOrders.j0 k a0 a1 a2 t148 t149 t158 t159 bt163.1 bt163.2 (bt165.2 != bt167.2)) else (camshaftlaw10_NatOrders.j0 k a0 a1 a2 t148 t149 t158 t159 bt163.1 bt163.2 true)) else (camshaftlaw10_NatOrders.j0 k a0 a1 a2 t148 t149 t158 t159 bt163.1 bt163.2 true)) else (camshaftlaw10_NatOrders.j0 k a0 a1 a2 t148 t149 t158 t159 bt163.1 bt163.2 true))))) = some r := H
  have A6 := Aside0.mk A60
  clear A60
  obtain ⟨y160, hy160⟩ : ∃ y_ : List Int, y_ = (([t158, a2] : List Int)) := ⟨_, rfl⟩
  replace H : ((nat_Add.f k y160).bind fun bt163 => ((nat_Mul.f k a0 a1).bind fun bt165 => ((nat_Mul.f k a1 a0).bind fun bt167 => (if t148 = t153 then (if t149 = t154 then (if bt165.1 = bt167.1 then (camshaftlaw10_NatOrders.j0 k a0 a1 a2 t148 t149 t158 t159 bt163.1 bt163.2 (bt165.2 != bt167.2)) else (camshaftlaw10_NatOrders.j0 k a0 a1 a2 t148 t149 t158 t159 bt163.1 bt163.2 true)) else (camshaftlaw10_NatOrders.j0 k a0 a1 a2 t148 t149 t158 t159 bt163.1 bt163.2 true)) else (camshaftlaw10_NatOrders.j0 k a0 a1 a2 t148 t149 t158 t159 bt163.1 bt163.2 true))))) = some r := by first | (rw [hy160]; with_reducible exact H) | (have H2_ := (Option.bind_some _ _).symm.trans H; rw [hy160]; with_reducible exact H2_) | (have H2_ := (Option.bind_some _ _).symm.trans H; with_reducible exact H2_) | with_reducible exact H | (rw [hy160]; exact H) | exact H
  have Ny160 := Aside0.mk hy160
  clear hy160
  replace H := Option.bind_eq_some_iff.mp H
  obtain ⟨⟨t163, t164⟩, A70, H⟩ := H
  replace H : ((nat_Mul.f k a0 a1).bind fun bt165 => ((nat_Mul.f k a1 a0).bind fun bt167 => (if t148 = t153 then (if t149 = t154 then (if bt165.1 = bt167.1 then (camshaftlaw10_NatOrders.j0 k a0 a1 a2 t148 t149 t158 t159 t163 t164 (bt165.2 != bt167.2)) else (camshaftlaw10_NatOrders.j0 k a0 a1 a2 t148 t149 t158 t159 t163 t164 true)) else (camshaftlaw10_NatOrders.j0 k a0 a1 a2 t148 t149 t158 t159 t163 t164 true)) else (camshaftlaw10_NatOrders.j0 k a0 a1 a2 t148 t149 t158 t159 t163 t164 true)))) = some r := H
  have A7 := Aside0.mk A70
  clear A70
  replace H := Option.bind_eq_some_iff.mp H
  obtain ⟨⟨t165, t166⟩, A80, H⟩ := H
  replace H : ((nat_Mul.f k a1 a0).bind fun bt167 => (if t148 = t153 then (if t149 = t154 then (if t165 = bt167.1 then (camshaftlaw10_NatOrders.j0 k a0 a1 a2 t148 t149 t158 t159 t163 t164 (t166 != bt167.2)) else (camshaftlaw10_NatOrders.j0 k a0 a1 a2 t148 t149 t158 t159 t163 t164 true)) else (camshaftlaw10_NatOrders.j0 k a0 a1 a2 t148 t149 t158 t159 t163 t164 true)) else (camshaftlaw10_NatOrders.j0 k a0 a1 a2 t148 t149 t158 t159 t163 t164 true))) = some r := H
  have A8 := Aside0.mk A80
  clear A80
  replace H := Option.bind_eq_some_iff.mp H
  obtain ⟨⟨t167, t168⟩, A90, H⟩ := H
  replace H : (if t148 = t153 then (if t149 = t154 then (if t165 = t167 then (camshaftlaw10_NatOrders.j0 k a0 a1 a2 t148 t149 t158 t159 t163 t164 (t166 != t168)) else (camshaftlaw10_NatOrders.j0 k a0 a1 a2 t148 t149 t158 t159 t163 t164 true)) else (camshaftlaw10_NatOrders.j0 k a0 a1 a2 t148 t149 t158 t159 t163 t164 true)) else (camshaftlaw10_NatOrders.j0 k a0 a1 a2 t148 t149 t158 t159 t163 t164 true)) = some r := H
  have A9 := Aside0.mk A90
  clear A90
  have HC10 := Aside0.mk H
  clear H
  go_enter Try.func4, Try.ntmps4
  go_upto_region 7 with (first | ((with_reducible refine gate_dst (N := 27) rfl ?_); refine Kd.R_lit (Kd.int .i64) _ 3 ?hg (N := 27) ?hd (xs := ([a0, a1, a2] : List Int)) (inner := [.int .i64 a0, .int .i64 a1, .int .i64 a2]) (ok := fun _ => True) (okp := fun _ => True) ?hr ?hp (fun _ hk => hk) trivial (Below.refl _ _) (Nat.le_refl _) (by simp) ?_; (case hd => rfl); (case hg => rfl); (case hr => first | (go_simp; done) | (go_simp; rfl)); (case hp => exact (Reps.one (show Kd.M (Kd.int .i64) _ _ _ a0 [.int .i64 a0] from rfl) (Reps.one (show Kd.M (Kd.int .i64) _ _ _ a1 [.int .i64 a1] from rfl) (Reps.one (show Kd.M (Kd.int .i64) _ _ _ a2 [.int .i64 a2] from rfl) (Reps.none _ _))))); intro v146 w11 ho12 hb hg_ hnew_; clear hg_ hnew_; (first | rw [← Ny145.out] at ho12 | (simp only [Int.reduceToNat] at ho12; rw [← Ny145.out] at ho12)); have n0_ := Aside0.mk (Kd.R_lower ho12 (below_size (by repeat (first | (with_reducible first | exact HB.out | apply below_alloc | apply pw_below_drewN | apply below_drew1) | exact HB.out)))); have n1_ := Aside0.mk (below_step (by repeat (first | (with_reducible first | exact HB.out | apply below_alloc | apply pw_below_drewN | apply below_drew1) | exact HB.out)) hb); clear HB; have HO147 := n0_; have HB := n1_; clear n0_ n1_; clear hb ho12; obtain ⟨Ao13, co13, eo13⟩ := Kd.R_slice HO147.out; subst eo13) | ((with_reducible refine gate_callee (f := 11) rfl ?_); refine goesL_ (some 28) rfl rfl Try.func11 (by kernel_rfl) rfl #[.slice Ao13 y145.length co13] rfl (by (try simp only [List.map_toArray, List.map_cons, List.map_nil]); first | done | rfl | (simp only [List.length_drop, List.length_take]; rfl)) ?_; (with_reducible refine (nat_Add.calls k _ _ y145 t148 t149 _ ?side1 ?side2 A4.out).mono ?_); (case side1 => repeat (first | exact (Kd.R_reads' HO147.out).2.2 | (with_reducible refine Kd.C_alloc ?_ _) | (with_reducible refine Kd.C_drewN ?_ _) | (with_reducible refine Kd.C_drew ?_))); (case side2 => exact (Kd.R_reads' HO147.out).2.1); rintro e w' ⟨rfl, ⟨nd, rfl⟩⟩; refine ⟨_, rfl, ?_⟩) | ((with_reducible refine gate_dst (N := 35) rfl ?_); refine Kd.R_lit (Kd.int .i64) _ 3 ?hg (N := 35) ?hd (xs := ([a2, a0, a1] : List Int)) (inner := [.int .i64 a2, .int .i64 a0, .int .i64 a1]) (ok := fun _ => True) (okp := fun _ => True) ?hr ?hp (fun _ hk => hk) trivial (Below.refl _ _) (Nat.le_refl _) (by simp) ?_; (case hd => rfl); (case hg => rfl); (case hr => first | (go_simp; done) | (go_simp; rfl)); (case hp => exact (Reps.one (show Kd.M (Kd.int .i64) _ _ _ a2 [.int .i64 a2] from rfl) (Reps.one (show Kd.M (Kd.int .i64) _ _ _ a0 [.int .i64 a0] from rfl) (Reps.one (show Kd.M (Kd.int .i64) _ _ _ a1 [.int .i64 a1] from rfl) (Reps.none _ _))))); intro v151 w14 ho15 hb hg_ hnew_; clear hg_ hnew_; (first | rw [← Ny150.out] at ho15 | (simp only [Int.reduceToNat] at ho15; rw [← Ny150.out] at ho15)); have n0_ := Aside0.mk (Kd.R_elder' (by (with_reducible repeat (first | apply Kd.R_alloc | apply Kd.R_drewN | apply Kd.R_drew)); exact HO147.out) (Kd.R_base ho15) hb); have n1_ := Aside0.mk (Kd.R_lower (Kd.R_new' ho15 (Kd.R_lt (by (with_reducible repeat (first | apply Kd.R_alloc | apply Kd.R_drewN | apply Kd.R_drew)); exact HO147.out))) (below_size (by repeat (first | (with_reducible first | exact HB.out | apply below_alloc | apply pw_below_drewN | apply below_drew1) | exact HB.out)))); have n2_ := Aside0.mk (below_step (by repeat (first | (with_reducible first | exact HB.out | apply below_alloc | apply pw_below_drewN | apply below_drew1) | exact HB.out)) hb); clear HO147; clear HB; have HO147 := n0_; have HO152 := n1_; have HB := n2_; clear n0_ n1_ n2_; clear hb ho15; obtain ⟨Ao16, co16, eo16⟩ := Kd.R_slice HO152.out; subst eo16) | ((with_reducible refine gate_callee (f := 11) rfl ?_); refine goesL_ (some 36) rfl rfl Try.func11 (by kernel_rfl) rfl #[.slice Ao16 y150.length co16] rfl (by (try simp only [List.map_toArray, List.map_cons, List.map_nil]); first | done | rfl | (simp only [List.length_drop, List.length_take]; rfl)) ?_; (with_reducible refine (nat_Add.calls k _ _ y150 t153 t154 _ ?side1 ?side2 A5.out).mono ?_); (case side1 => repeat (first | exact (Kd.R_reads' HO152.out).2.2 | (with_reducible refine Kd.C_alloc ?_ _) | (with_reducible refine Kd.C_drewN ?_ _) | (with_reducible refine Kd.C_drew ?_))); (case side2 => exact (Kd.R_reads' HO152.out).2.1); rintro e w' ⟨rfl, ⟨nd, rfl⟩⟩; refine ⟨_, rfl, ?_⟩) | ((with_reducible refine gate_dst (N := 42) rfl ?_); refine Kd.R_lit (Kd.int .i64) _ 3 ?hg (N := 42) ?hd (xs := ([a0, a1] : List Int)) (inner := [.int .i64 a0, .int .i64 a1]) (ok := fun _ => True) (okp := fun _ => True) ?hr ?hp (fun _ hk => hk) trivial (Below.refl _ _) (Nat.le_refl _) (by simp) ?_; (case hd => rfl); (case hg => rfl); (case hr => first | (go_simp; done) | (go_simp; rfl)); (case hp => exact (Reps.one (show Kd.M (Kd.int .i64) _ _ _ a0 [.int .i64 a0] from rfl) (Reps.one (show Kd.M (Kd.int .i64) _ _ _ a1 [.int .i64 a1] from rfl) (Reps.none _ _)))); intro v156 w17 ho18 hb hg_ hnew_; clear hg_ hnew_; (first | rw [← Ny155.out] at ho18 | (simp only [Int.reduceToNat] at ho18; rw [← Ny155.out] at ho18)); have n0_ := Aside0.mk (Kd.R_elder' (by (with_reducible repeat (first | apply Kd.R_alloc | apply Kd.R_drewN | apply Kd.R_drew)); exact HO147.out) (Kd.R_base ho18) hb); have n1_ := Aside0.mk (Kd.R_elder' (by (with_reducible repeat (first | apply Kd.R_alloc | apply Kd.R_drewN | apply Kd.R_drew)); exact HO152.out) (Kd.R_base ho18) hb); have n2_ := Aside0.mk (Kd.R_lower (Kd.R_new' (Kd.R_new' ho18 (Kd.R_lt (by (with_reducible repeat (first | apply Kd.R_alloc | apply Kd.R_drewN | apply Kd.R_drew)); exact HO147.out))) (Kd.R_lt (by (with_reducible repeat (first | apply Kd.R_alloc | apply Kd.R_drewN | apply Kd.R_drew)); exact HO152.out))) (below_size (by repeat (first | (with_reducible first | exact HB.out | apply below_alloc | apply pw_below_drewN | apply below_drew1) | exact HB.out)))); have n3_ := Aside0.mk (below_step (by repeat (first | (with_reducible first | exact HB.out | apply below_alloc | apply pw_below_drewN | apply below_drew1) | exact HB.out)) hb); clear HO147; clear HO152; clear HB; have HO147 := n0_; have HO152 := n1_; have HO157 := n2_; have HB := n3_; clear n0_ n1_ n2_ n3_; clear hb ho18; obtain ⟨Ao19, co19, eo19⟩ := Kd.R_slice HO157.out; subst eo19) | ((with_reducible refine gate_callee (f := 11) rfl ?_); refine goesL_ (some 43) rfl rfl Try.func11 (by kernel_rfl) rfl #[.slice Ao19 y155.length co19] rfl (by (try simp only [List.map_toArray, List.map_cons, List.map_nil]); first | done | rfl | (simp only [List.length_drop, List.length_take]; rfl)) ?_; (with_reducible refine (nat_Add.calls k _ _ y155 t158 t159 _ ?side1 ?side2 A6.out).mono ?_); (case side1 => repeat (first | exact (Kd.R_reads' HO157.out).2.2 | (with_reducible refine Kd.C_alloc ?_ _) | (with_reducible refine Kd.C_drewN ?_ _) | (with_reducible refine Kd.C_drew ?_))); (case side2 => exact (Kd.R_reads' HO157.out).2.1); rintro e w' ⟨rfl, ⟨nd, rfl⟩⟩; refine ⟨_, rfl, ?_⟩) | ((with_reducible refine gate_dst (N := 49) rfl ?_); refine Kd.R_lit (Kd.int .i64) _ 3 ?hg (N := 49) ?hd (xs := ([t158, a2] : List Int)) (inner := [.int .i64 t158, .int .i64 a2]) (ok := fun _ => True) (okp := fun _ => True) ?hr ?hp (fun _ hk => hk) trivial (Below.refl _ _) (Nat.le_refl _) (by simp) ?_; (case hd => rfl); (case hg => rfl); (case hr => first | (go_simp; done) | (go_simp; rfl)); (case hp => exact (Reps.one (show Kd.M (Kd.int .i64) _ _ _ t158 [.int .i64 t158] from rfl) (Reps.one (show Kd.M (Kd.int .i64) _ _ _ a2 [.int .i64 a2] from rfl) (Reps.none _ _)))); intro v161 w20 ho21 hb hg_ hnew_; clear hg_ hnew_; (first | rw [← Ny160.out] at ho21 | (simp only [Int.reduceToNat] at ho21; rw [← Ny160.out] at ho21)); have n0_ := Aside0.mk (Kd.R_elder' (by (with_reducible repeat (first | apply Kd.R_alloc | apply Kd.R_drewN | apply Kd.R_drew)); exact HO147.out) (Kd.R_base ho21) hb); have n1_ := Aside0.mk (Kd.R_elder' (by (with_reducible repeat (first | apply Kd.R_alloc | apply Kd.R_drewN | apply Kd.R_drew)); exact HO152.out) (Kd.R_base ho21) hb); have n2_ := Aside0.mk (Kd.R_elder' (by (with_reducible repeat (first | apply Kd.R_alloc | apply Kd.R_drewN | apply Kd.R_drew)); exact HO157.out) (Kd.R_base ho21) hb); have n3_ := Aside0.mk (Kd.R_lower (Kd.R_new' (Kd.R_new' (Kd.R_new' ho21 (Kd.R_lt (by (with_reducible repeat (first | apply Kd.R_alloc | apply Kd.R_drewN | apply Kd.R_drew)); exact HO147.out))) (Kd.R_lt (by (with_reducible repeat (first | apply Kd.R_alloc | apply Kd.R_drewN | apply Kd.R_drew)); exact HO152.out))) (Kd.R_lt (by (with_reducible repeat (first | apply Kd.R_alloc | apply Kd.R_drewN | apply Kd.R_drew)); exact HO157.out))) (below_size (by repeat (first | (with_reducible first | exact HB.out | apply below_alloc | apply pw_below_drewN | apply below_drew1) | exact HB.out)))); have n4_ := Aside0.mk (below_step (by repeat (first | (with_reducible first | exact HB.out | apply below_alloc | apply pw_below_drewN | apply below_drew1) | exact HB.out)) hb); clear HO147; clear HO152; clear HO157; clear HB; have HO147 := n0_; have HO152 := n1_; have HO157 := n2_; have HO162 := n3_; have HB := n4_; clear n0_ n1_ n2_ n3_ n4_; clear hb ho21; obtain ⟨Ao22, co22, eo22⟩ := Kd.R_slice HO162.out; subst eo22) | ((with_reducible refine gate_callee (f := 11) rfl ?_); refine goesL_ (some 50) rfl rfl Try.func11 (by kernel_rfl) rfl #[.slice Ao22 y160.length co22] rfl (by (try simp only [List.map_toArray, List.map_cons, List.map_nil]); first | done | rfl | (simp only [List.length_drop, List.length_take]; rfl)) ?_; (with_reducible refine (nat_Add.calls k _ _ y160 t163 t164 _ ?side1 ?side2 A7.out).mono ?_); (case side1 => repeat (first | exact (Kd.R_reads' HO162.out).2.2 | (with_reducible refine Kd.C_alloc ?_ _) | (with_reducible refine Kd.C_drewN ?_ _) | (with_reducible refine Kd.C_drew ?_))); (case side2 => exact (Kd.R_reads' HO162.out).2.1); rintro e w' ⟨rfl, ⟨nd, rfl⟩⟩; refine ⟨_, rfl, ?_⟩) | ((with_reducible refine gate_callee (f := 13) rfl ?_); refine goesL_ (some 56) rfl rfl Try.func13 (by kernel_rfl) rfl #[.int .i64 a0, .int .i64 a1] rfl (by (try simp only [List.map_toArray, List.map_cons, List.map_nil]); first | done | rfl | (simp only [List.length_drop, List.length_take]; rfl)) ?_; (with_reducible refine (nat_Mul.calls k a0 a1 t165 t166 _ A8.out).mono ?_); rintro e w' ⟨rfl, ⟨nd, rfl⟩⟩; refine ⟨_, rfl, ?_⟩) | ((with_reducible refine gate_callee (f := 13) rfl ?_); refine goesL_ (some 62) rfl rfl Try.func13 (by kernel_rfl) rfl #[.int .i64 a1, .int .i64 a0] rfl (by (try simp only [List.map_toArray, List.map_cons, List.map_nil]); first | done | rfl | (simp only [List.length_drop, List.length_take]; rfl)) ?_; (with_reducible refine (nat_Mul.calls k a1 a0 t167 t168 _ A9.out).mono ?_); rintro e w' ⟨rfl, ⟨nd, rfl⟩⟩; refine ⟨_, rfl, ?_⟩))
  (try simp only [Act.put, List.setIfInBounds_toArray, List.set_cons_zero, List.set_cons_succ])
  go_cut [82] (fun v82 wc => ∃ (kq : Nat) (x82_9 : Bool), v82 = .bool x82_9 ∧ Aside0 (camshaftlaw10_NatOrders.j0 kq a0 a1 a2 t148 t149 t158 t159 t163 t164 x82_9 = some r) ∧ Aside0 (kq ≤ k) ∧ Aside0 (Below w.heap.size w wc))
  case first =>
    have H := HC10.out
    clear HC10
    by_cases c23 : t148 = t153
    · rw [if_pos c23] at H
      have c23b0 : (t148 == t153) = true := beq_iff_eq.mpr c23
      have c23b1 : (t148 != t153) = false := bne_eq_false_iff_eq.mpr c23
      clear c23
      (first | rw [c23b0] | (simp only [i64_w, i32_w]; rw [c23b0]) | skip)
      by_cases c24 : t149 = t154
      · rw [if_pos c24] at H
        have c24b0 : (t149 == t154) = true := beq_iff_eq.mpr c24
        have c24b1 : (t149 != t154) = false := bne_eq_false_iff_eq.mpr c24
        clear c24
        by_cases c25 : t165 = t167
        · rw [if_pos c25] at H
          have c25b0 : (t165 == t167) = true := beq_iff_eq.mpr c25
          have c25b1 : (t165 != t167) = false := bne_eq_false_iff_eq.mpr c25
          clear c25
          have H' := Aside0.mk H
          clear H
          go_wp2
          go_meet
          case rel => exact ⟨_, ((t166 != t168)), (by first | rfl | (simp; done) | (simp [*]; done)), H', ⟨by first | omega | exact Nat.le_refl _⟩, ⟨by repeat (first | (with_reducible first | exact HB.out | apply below_alloc | apply pw_below_drewN | apply below_drew1) | exact HB.out)⟩⟩
        · rw [if_neg c25] at H
          have c25b0 : (t165 == t167) = false := beq_eq_false_iff_ne.mpr c25
          have c25b1 : (t165 != t167) = true := bne_iff_ne.mpr c25
          have H' := Aside0.mk H
          clear H
          go_wp2
          go_meet
          case rel => exact ⟨_, (true), (by first | rfl | (simp; done) | (simp [*]; done)), H', ⟨by first | omega | exact Nat.le_refl _⟩, ⟨by repeat (first | (with_reducible first | exact HB.out | apply below_alloc | apply pw_below_drewN | apply below_drew1) | exact HB.out)⟩⟩
      · rw [if_neg c24] at H
        have c24b0 : (t149 == t154) = false := beq_eq_false_iff_ne.mpr c24
        have c24b1 : (t149 != t154) = true := bne_iff_ne.mpr c24
        have H' := Aside0.mk H
        clear H
        go_wp2
        go_meet
        case rel => exact ⟨_, (true), (by first | rfl | (simp; done) | (simp [*]; done)), H', ⟨by first | omega | exact Nat.le_refl _⟩, ⟨by repeat (first | (with_reducible first | exact HB.out | apply below_alloc | apply pw_below_drewN | apply below_drew1) | exact HB.out)⟩⟩
    · rw [if_neg c23] at H
      have c23b0 : (t148 == t153) = false := beq_eq_false_iff_ne.mpr c23
      have c23b1 : (t148 != t153) = true := bne_iff_ne.mpr c23
      (first | rw [c23b0] | (simp only [i64_w, i32_w]; rw [c23b0]) | skip)
      have H' := Aside0.mk H
      clear H
      go_wp2
      go_meet
      case rel => exact ⟨_, (true), (by first | rfl | (simp; done) | (simp [*]; done)), H', ⟨by first | omega | exact Nat.le_refl _⟩, ⟨by repeat (first | (with_reducible first | exact HB.out | apply below_alloc | apply pw_below_drewN | apply below_drew1) | exact HB.out)⟩⟩
  case rest =>
    clear HC10
    try clear c1
    try clear c2
    try clear p2
    try clear c4
    try clear c11
    try clear c13
    try clear c23
    try clear c23b0
    try clear c23b1
    try clear c24
    try clear c24b0
    try clear c24b1
    try clear c25
    try clear c25b0
    try clear c25b1
    obtain ⟨kq, x82_9, rfl, HA, HJ9, HB⟩ := hcut
    cases kq with
    | zero => exact absurd HA.out (by simp [camshaftlaw10_NatOrders.j0])
    | succ kj9 =>
      have H := HA.out
      clear HA
      simp only [camshaftlaw10_NatOrders.j0] at H
      by_cases c26 : x82_9 = true
      · subst c26
        have H1 : (some false) = some r := by rw [if_pos rfl] at H; exact H
        clear H
        have H := H1
        clear H1
        obtain rfl := Option.some.inj H
        go_wp2
        go_ret
        exact ⟨by first | rfl | (simp [errW_none, errW_some] <;> rfl) | (simp [*, errW_none, errW_some] <;> rfl), by repeat (first | (with_reducible first | exact HB.out | apply below_alloc | apply pw_below_drewN | apply below_drew1) | exact HB.out)⟩
      · replace c26 := Bool.eq_false_iff.mpr c26
        subst c26
        have H1 : (if t149 = 0 then (if t159 = 0 then (if t164 = 0 then (if t163 = t148 then (if (wrap64 (t148 - a2)) = t158 then (camshaftlaw10_NatOrders.j1 kj9 a0 ((wrap64 ((wrap64 (t148 - a1)) - a2)) != a0)) else (camshaftlaw10_NatOrders.j1 kj9 a0 true)) else (camshaftlaw10_NatOrders.j1 kj9 a0 true)) else (camshaftlaw10_NatOrders.j1 kj9 a0 true)) else (camshaftlaw10_NatOrders.j1 kj9 a0 true)) else (camshaftlaw10_NatOrders.j1 kj9 a0 false)) = some r := by rw [if_neg (show ¬ (false = true) by decide)] at H; exact H
        clear H
        have H := H1
        clear H1
        have HC27 := Aside0.mk H
        clear H
        go_upto_region 9 with (fail)
        go_cut [113] (fun v113 wc => ∃ (kq : Nat) (x113_26 : Bool), v113 = .bool x113_26 ∧ Aside0 (camshaftlaw10_NatOrders.j1 kq a0 x113_26 = some r) ∧ Aside0 (kq ≤ kj9) ∧ Aside0 (Below w.heap.size w wc))
        case first =>
          have H := HC27.out
          clear HC27
          by_cases c28 : t149 = 0
          · rw [if_pos c28] at H
            have c28b0 : (t149 == 0) = true := beq_iff_eq.mpr c28
            have c28b1 : (t149 != 0) = false := bne_eq_false_iff_eq.mpr c28
            clear c28
            (first | rw [c28b0] | (simp only [i64_w, i32_w]; rw [c28b0]) | skip)
            by_cases c29 : t159 = 0
            · rw [if_pos c29] at H
              have c29b0 : (t159 == 0) = true := beq_iff_eq.mpr c29
              have c29b1 : (t159 != 0) = false := bne_eq_false_iff_eq.mpr c29
              clear c29
              by_cases c30 : t164 = 0
              · rw [if_pos c30] at H
                have c30b0 : (t164 == 0) = true := beq_iff_eq.mpr c30
                have c30b1 : (t164 != 0) = false := bne_eq_false_iff_eq.mpr c30
                clear c30
                by_cases c31 : t163 = t148
                · rw [if_pos c31] at H
                  have c31b0 : (t163 == t148) = true := beq_iff_eq.mpr c31
                  have c31b1 : (t163 != t148) = false := bne_eq_false_iff_eq.mpr c31
                  clear c31
                  by_cases c32 : (wrap64 (t148 - a2)) = t158
                  · rw [if_pos c32] at H
                    have c32b0 : ((wrap64 (t148 - a2)) == t158) = true := beq_iff_eq.mpr c32
                    have c32b1 : ((wrap64 (t148 - a2)) != t158) = false := bne_eq_false_iff_eq.mpr c32
                    clear c32
                    have H' := Aside0.mk H
                    clear H
                    go_wp2
                    go_meet
                    case rel => exact ⟨_, (((wrap64 ((wrap64 (t148 - a1)) - a2)) != a0)), (by first | rfl | (simp; done) | (simp [*]; done)), H', ⟨by have := HJ9.out; first | omega | exact Nat.le_refl _⟩, ⟨by repeat (first | (with_reducible first | exact HB.out | apply below_alloc | apply pw_below_drewN | apply below_drew1) | exact HB.out)⟩⟩
                  · rw [if_neg c32] at H
                    have c32b0 : ((wrap64 (t148 - a2)) == t158) = false := beq_eq_false_iff_ne.mpr c32
                    have c32b1 : ((wrap64 (t148 - a2)) != t158) = true := bne_iff_ne.mpr c32
                    have H' := Aside0.mk H
                    clear H
                    go_wp2
                    go_meet
                    case rel => exact ⟨_, (true), (by first | rfl | (simp; done) | (simp [*]; done)), H', ⟨by have := HJ9.out; first | omega | exact Nat.le_refl _⟩, ⟨by repeat (first | (with_reducible first | exact HB.out | apply below_alloc | apply pw_below_drewN | apply below_drew1) | exact HB.out)⟩⟩
                · rw [if_neg c31] at H
                  have c31b0 : (t163 == t148) = false := beq_eq_false_iff_ne.mpr c31
                  have c31b1 : (t163 != t148) = true := bne_iff_ne.mpr c31
                  have H' := Aside0.mk H
                  clear H
                  go_wp2
                  go_meet
                  case rel => exact ⟨_, (true), (by first | rfl | (simp; done) | (simp [*]; done)), H', ⟨by have := HJ9.out; first | omega | exact Nat.le_refl _⟩, ⟨by repeat (first | (with_reducible first | exact HB.out | apply below_alloc | apply pw_below_drewN | apply below_drew1) | exact HB.out)⟩⟩
              · rw [if_neg c30] at H
                have c30b0 : (t164 == 0) = false := beq_eq_false_iff_ne.mpr c30
                have c30b1 : (t164 != 0) = true := bne_iff_ne.mpr c30
                have H' := Aside0.mk H
                clear H
                go_wp2
                go_meet
                case rel => exact ⟨_, (true), (by first | rfl | (simp; done) | (simp [*]; done)), H', ⟨by have := HJ9.out; first | omega | exact Nat.le_refl _⟩, ⟨by repeat (first | (with_reducible first | exact HB.out | apply below_alloc | apply pw_below_drewN | apply below_drew1) | exact HB.out)⟩⟩
            · rw [if_neg c29] at H
              have c29b0 : (t159 == 0) = false := beq_eq_false_iff_ne.mpr c29
              have c29b1 : (t159 != 0) = true := bne_iff_ne.mpr c29
              have H' := Aside0.mk H
              clear H
              go_wp2
              go_meet
              case rel => exact ⟨_, (true), (by first | rfl | (simp; done) | (simp [*]; done)), H', ⟨by have := HJ9.out; first | omega | exact Nat.le_refl _⟩, ⟨by repeat (first | (with_reducible first | exact HB.out | apply below_alloc | apply pw_below_drewN | apply below_drew1) | exact HB.out)⟩⟩
          · rw [if_neg c28] at H
            have c28b0 : (t149 == 0) = false := beq_eq_false_iff_ne.mpr c28
            have c28b1 : (t149 != 0) = true := bne_iff_ne.mpr c28
            (first | rw [c28b0] | (simp only [i64_w, i32_w]; rw [c28b0]) | skip)
            have H' := Aside0.mk H
            clear H
            go_wp2
            go_meet
            case rel => exact ⟨_, (false), (by first | rfl | (simp; done) | (simp [*]; done)), H', ⟨by have := HJ9.out; first | omega | exact Nat.le_refl _⟩, ⟨by repeat (first | (with_reducible first | exact HB.out | apply below_alloc | apply pw_below_drewN | apply below_drew1) | exact HB.out)⟩⟩
        case rest =>
          clear HC27
          try clear c1
          try clear c2
          try clear p2
          try clear c3
          try clear c4
          try clear p6
          try clear c11
          try clear c13
          try clear c23
          try clear c23b0
          try clear c23b1
          try clear c24
          try clear c24b0
          try clear c24b1
          try clear c25
          try clear c25b0
          try clear c25b1
          try clear c26
          try clear c28
          try clear c28b0
          try clear c28b1
          try clear c29
          try clear c29b0
          try clear c29b1
          try clear c30
          try clear c30b0
          try clear c30b1
          try clear c31
          try clear c31b0
          try clear c31b1
          try clear c32
          try clear c32b0
          try clear c32b1
          try clear p2
          obtain ⟨kq, x113_26, rfl, HA, HJ26, HB⟩ := hcut
          cases kq with
          | zero => exact absurd HA.out (by simp [camshaftlaw10_NatOrders.j1])
          | succ kj26 =>
            have H := HA.out
            clear HA
            simp only [camshaftlaw10_NatOrders.j1] at H
            by_cases c33 : x113_26 = true
            · subst c33
              have H1 : (some false) = some r := by rw [if_pos rfl] at H; exact H
              clear H
              have H := H1
              clear H1
              obtain rfl := Option.some.inj H
              go_wp2
              go_ret
              exact ⟨by first | rfl | (simp [errW_none, errW_some] <;> rfl) | (simp [*, errW_none, errW_some] <;> rfl), by repeat (first | (with_reducible first | exact HB.out | apply below_alloc | apply pw_below_drewN | apply below_drew1) | exact HB.out)⟩
            · replace c33 := Bool.eq_false_iff.mpr c33
              subst c33
              have H1 : ((nat_Mul.f kj26 a0 1).bind fun bt169 => ((nat_Mul.f kj26 a0 0).bind fun bt171 => ((nat_Right.f a0).bind fun t173 => (if (t173 == (bt169.2 == 0)) = true then (if bt169.2 = 0 then (if bt169.1 = a0 then (if bt171.1 = 0 then (if bt171.2 = 0 then ((camshaftlaw10_known.f).bind fun t174 => (some t174)) else (some false)) else (some false)) else (some false)) else ((camshaftlaw10_known.f).bind fun t175 => (some t175))) else (some false))))) = some r := by rw [if_neg (show ¬ (false = true) by decide)] at H; exact H
              clear H
              have H := H1
              clear H1
              replace H := Option.bind_eq_some_iff.mp H
              obtain ⟨⟨t169, t170⟩, A340, H⟩ := H
              replace H : ((nat_Mul.f kj26 a0 0).bind fun bt171 => ((nat_Right.f a0).bind fun t173 => (if (t173 == (t170 == 0)) = true then (if t170 = 0 then (if t169 = a0 then (if bt171.1 = 0 then (if bt171.2 = 0 then ((camshaftlaw10_known.f).bind fun t174 => (some t174)) else (some false)) else (some false)) else (some false)) else ((camshaftlaw10_known.f).bind fun t175 => (some t175))) else (some false)))) = some r := H
              have A34 := Aside0.mk A340
              clear A340
              replace H := Option.bind_eq_some_iff.mp H
              obtain ⟨⟨t171, t172⟩, A350, H⟩ := H
              replace H : ((nat_Right.f a0).bind fun t173 => (if (t173 == (t170 == 0)) = true then (if t170 = 0 then (if t169 = a0 then (if t171 = 0 then (if t172 = 0 then ((camshaftlaw10_known.f).bind fun t174 => (some t174)) else (some false)) else (some false)) else (some false)) else ((camshaftlaw10_known.f).bind fun t175 => (some t175))) else (some false))) = some r := H
              have A35 := Aside0.mk A350
              clear A350
              replace H := Option.bind_eq_some_iff.mp H
              obtain ⟨t173, A360, H⟩ := H
              replace H : (if (t173 == (t170 == 0)) = true then (if t170 = 0 then (if t169 = a0 then (if t171 = 0 then (if t172 = 0 then ((camshaftlaw10_known.f).bind fun t174 => (some t174)) else (some false)) else (some false)) else (some false)) else ((camshaftlaw10_known.f).bind fun t175 => (some t175))) else (some false)) = some r := H
              have A36 := Aside0.mk A360
              clear A360
              by_cases c37 : (t173 == (t170 == 0)) = true
              · rw [if_pos c37] at H
                have c37b0 : (t173 == (t170 == 0)) = true := c37
                (try (have c37b1 : decide (t173 = (t170 == 0)) = true := by simpa using c37))
                (try (have c37b2 : (t173 == (t170 == 0)) = true := by simpa using c37))
                clear c37
                by_cases c38 : t170 = 0
                · rw [if_pos c38] at H
                  have c38b0 : (t170 == 0) = true := beq_iff_eq.mpr c38
                  have c38b1 : (t170 != 0) = false := bne_eq_false_iff_eq.mpr c38
                  clear c38
                  by_cases c39 : t169 = a0
                  · rw [if_pos c39] at H
                    have c39b0 : (t169 == a0) = true := beq_iff_eq.mpr c39
                    have c39b1 : (t169 != a0) = false := bne_eq_false_iff_eq.mpr c39
                    clear c39
                    by_cases c40 : t171 = 0
                    · rw [if_pos c40] at H
                      have c40b0 : (t171 == 0) = true := beq_iff_eq.mpr c40
                      have c40b1 : (t171 != 0) = false := bne_eq_false_iff_eq.mpr c40
                      clear c40
                      by_cases c41 : t172 = 0
                      · rw [if_pos c41] at H
                        have c41b0 : (t172 == 0) = true := beq_iff_eq.mpr c41
                        have c41b1 : (t172 != 0) = false := bne_eq_false_iff_eq.mpr c41
                        clear c41
                        replace H := Option.bind_eq_some_iff.mp H
                        obtain ⟨t174, A420, H⟩ := H
                        replace H : (some t174) = some r := H
                        have A42 := Aside0.mk A420
                        clear A420
                        obtain rfl := Option.some.inj H
                        go_wp2_with (first | ((with_reducible refine gate_callee (f := 13) rfl ?_); refine goesL_ (some 116) rfl rfl Try.func13 (by kernel_rfl) rfl #[.int .i64 a0, .int .i64 1] rfl (by (try simp only [List.map_toArray, List.map_cons, List.map_nil]); first | done | rfl | (simp only [List.length_drop, List.length_take]; rfl)) ?_; (with_reducible refine (nat_Mul.calls kj26 a0 1 t169 t170 _ A34.out).mono ?_); rintro e w' ⟨rfl, ⟨nd, rfl⟩⟩; refine ⟨_, rfl, ?_⟩) | ((with_reducible refine gate_callee (f := 13) rfl ?_); refine goesL_ (some 121) rfl rfl Try.func13 (by kernel_rfl) rfl #[.int .i64 a0, .int .i64 0] rfl (by (try simp only [List.map_toArray, List.map_cons, List.map_nil]); first | done | rfl | (simp only [List.length_drop, List.length_take]; rfl)) ?_; (with_reducible refine (nat_Mul.calls kj26 a0 0 t171 t172 _ A35.out).mono ?_); rintro e w' ⟨rfl, ⟨nd, rfl⟩⟩; refine ⟨_, rfl, ?_⟩) | ((with_reducible refine gate_callee (f := 17) rfl ?_); refine goesL_ (some 125) rfl rfl Try.func17 (by kernel_rfl) rfl #[.int .i64 a0] rfl (by (try simp only [List.map_toArray, List.map_cons, List.map_nil]); first | done | rfl | (simp only [List.length_drop, List.length_take]; rfl)) ?_; (with_reducible refine (nat_Right.calls a0 t173 _ A36.out).mono ?_); rintro e w' ⟨rfl, ⟨nd, rfl⟩⟩; refine ⟨_, rfl, ?_⟩) | (go_at_call 10; (with_reducible refine (camshaftlaw10_known.calls  t174 _ A42.out).mono ?_); rintro e w43 ⟨rfl, hb⟩; have n0_ := Aside0.mk (below_step (by repeat (first | (with_reducible first | exact HB.out | apply below_alloc | apply pw_below_drewN | apply below_drew1) | exact HB.out)) hb); clear HB; have HB := n0_; clear n0_; (try clear hb); (try clear hb2); (try clear hk); (try clear hi)))
                        all_goals first | (exfalso; rename_i h_; revert c37b0; simp [beq_iff_eq.mp c38b0, h_]; done) | (exfalso; rename_i h_; revert c37b0; simp [c38, h_]; done) | (go_ret; exact ⟨by first | rfl | (simp [errW_none, errW_some] <;> rfl) | (simp [*, errW_none, errW_some] <;> rfl), by repeat (first | (with_reducible first | exact HB.out | apply below_alloc | apply pw_below_drewN | apply below_drew1) | exact HB.out)⟩)
                      · rw [if_neg c41] at H
                        have c41b0 : (t172 == 0) = false := beq_eq_false_iff_ne.mpr c41
                        have c41b1 : (t172 != 0) = true := bne_iff_ne.mpr c41
                        obtain rfl := Option.some.inj H
                        go_wp2_with (first | ((with_reducible refine gate_callee (f := 13) rfl ?_); refine goesL_ (some 116) rfl rfl Try.func13 (by kernel_rfl) rfl #[.int .i64 a0, .int .i64 1] rfl (by (try simp only [List.map_toArray, List.map_cons, List.map_nil]); first | done | rfl | (simp only [List.length_drop, List.length_take]; rfl)) ?_; (with_reducible refine (nat_Mul.calls kj26 a0 1 t169 t170 _ A34.out).mono ?_); rintro e w' ⟨rfl, ⟨nd, rfl⟩⟩; refine ⟨_, rfl, ?_⟩) | ((with_reducible refine gate_callee (f := 13) rfl ?_); refine goesL_ (some 121) rfl rfl Try.func13 (by kernel_rfl) rfl #[.int .i64 a0, .int .i64 0] rfl (by (try simp only [List.map_toArray, List.map_cons, List.map_nil]); first | done | rfl | (simp only [List.length_drop, List.length_take]; rfl)) ?_; (with_reducible refine (nat_Mul.calls kj26 a0 0 t171 t172 _ A35.out).mono ?_); rintro e w' ⟨rfl, ⟨nd, rfl⟩⟩; refine ⟨_, rfl, ?_⟩) | ((with_reducible refine gate_callee (f := 17) rfl ?_); refine goesL_ (some 125) rfl rfl Try.func17 (by kernel_rfl) rfl #[.int .i64 a0] rfl (by (try simp only [List.map_toArray, List.map_cons, List.map_nil]); first | done | rfl | (simp only [List.length_drop, List.length_take]; rfl)) ?_; (with_reducible refine (nat_Right.calls a0 t173 _ A36.out).mono ?_); rintro e w' ⟨rfl, ⟨nd, rfl⟩⟩; refine ⟨_, rfl, ?_⟩))
                        all_goals first | (exfalso; rename_i h_; revert c37b0; simp [beq_iff_eq.mp c38b0, h_]; done) | (exfalso; rename_i h_; revert c37b0; simp [c38, h_]; done) | (go_ret; exact ⟨by first | rfl | (simp [errW_none, errW_some] <;> rfl) | (simp [*, errW_none, errW_some] <;> rfl), by repeat (first | (with_reducible first | exact HB.out | apply below_alloc | apply pw_below_drewN | apply below_drew1) | exact HB.out)⟩)
                    · rw [if_neg c40] at H
                      have c40b0 : (t171 == 0) = false := beq_eq_false_iff_ne.mpr c40
                      have c40b1 : (t171 != 0) = true := bne_iff_ne.mpr c40
                      obtain rfl := Option.some.inj H
                      go_wp2_with (first | ((with_reducible refine gate_callee (f := 13) rfl ?_); refine goesL_ (some 116) rfl rfl Try.func13 (by kernel_rfl) rfl #[.int .i64 a0, .int .i64 1] rfl (by (try simp only [List.map_toArray, List.map_cons, List.map_nil]); first | done | rfl | (simp only [List.length_drop, List.length_take]; rfl)) ?_; (with_reducible refine (nat_Mul.calls kj26 a0 1 t169 t170 _ A34.out).mono ?_); rintro e w' ⟨rfl, ⟨nd, rfl⟩⟩; refine ⟨_, rfl, ?_⟩) | ((with_reducible refine gate_callee (f := 13) rfl ?_); refine goesL_ (some 121) rfl rfl Try.func13 (by kernel_rfl) rfl #[.int .i64 a0, .int .i64 0] rfl (by (try simp only [List.map_toArray, List.map_cons, List.map_nil]); first | done | rfl | (simp only [List.length_drop, List.length_take]; rfl)) ?_; (with_reducible refine (nat_Mul.calls kj26 a0 0 t171 t172 _ A35.out).mono ?_); rintro e w' ⟨rfl, ⟨nd, rfl⟩⟩; refine ⟨_, rfl, ?_⟩) | ((with_reducible refine gate_callee (f := 17) rfl ?_); refine goesL_ (some 125) rfl rfl Try.func17 (by kernel_rfl) rfl #[.int .i64 a0] rfl (by (try simp only [List.map_toArray, List.map_cons, List.map_nil]); first | done | rfl | (simp only [List.length_drop, List.length_take]; rfl)) ?_; (with_reducible refine (nat_Right.calls a0 t173 _ A36.out).mono ?_); rintro e w' ⟨rfl, ⟨nd, rfl⟩⟩; refine ⟨_, rfl, ?_⟩))
                      all_goals first | (exfalso; rename_i h_; revert c37b0; simp [beq_iff_eq.mp c38b0, h_]; done) | (exfalso; rename_i h_; revert c37b0; simp [c38, h_]; done) | (go_ret; exact ⟨by first | rfl | (simp [errW_none, errW_some] <;> rfl) | (simp [*, errW_none, errW_some] <;> rfl), by repeat (first | (with_reducible first | exact HB.out | apply below_alloc | apply pw_below_drewN | apply below_drew1) | exact HB.out)⟩)
                  · rw [if_neg c39] at H
                    have c39b0 : (t169 == a0) = false := beq_eq_false_iff_ne.mpr c39
                    have c39b1 : (t169 != a0) = true := bne_iff_ne.mpr c39
                    obtain rfl := Option.some.inj H
                    go_wp2_with (first | ((with_reducible refine gate_callee (f := 13) rfl ?_); refine goesL_ (some 116) rfl rfl Try.func13 (by kernel_rfl) rfl #[.int .i64 a0, .int .i64 1] rfl (by (try simp only [List.map_toArray, List.map_cons, List.map_nil]); first | done | rfl | (simp only [List.length_drop, List.length_take]; rfl)) ?_; (with_reducible refine (nat_Mul.calls kj26 a0 1 t169 t170 _ A34.out).mono ?_); rintro e w' ⟨rfl, ⟨nd, rfl⟩⟩; refine ⟨_, rfl, ?_⟩) | ((with_reducible refine gate_callee (f := 13) rfl ?_); refine goesL_ (some 121) rfl rfl Try.func13 (by kernel_rfl) rfl #[.int .i64 a0, .int .i64 0] rfl (by (try simp only [List.map_toArray, List.map_cons, List.map_nil]); first | done | rfl | (simp only [List.length_drop, List.length_take]; rfl)) ?_; (with_reducible refine (nat_Mul.calls kj26 a0 0 t171 t172 _ A35.out).mono ?_); rintro e w' ⟨rfl, ⟨nd, rfl⟩⟩; refine ⟨_, rfl, ?_⟩) | ((with_reducible refine gate_callee (f := 17) rfl ?_); refine goesL_ (some 125) rfl rfl Try.func17 (by kernel_rfl) rfl #[.int .i64 a0] rfl (by (try simp only [List.map_toArray, List.map_cons, List.map_nil]); first | done | rfl | (simp only [List.length_drop, List.length_take]; rfl)) ?_; (with_reducible refine (nat_Right.calls a0 t173 _ A36.out).mono ?_); rintro e w' ⟨rfl, ⟨nd, rfl⟩⟩; refine ⟨_, rfl, ?_⟩))
                    all_goals first | (exfalso; rename_i h_; revert c37b0; simp [beq_iff_eq.mp c38b0, h_]; done) | (exfalso; rename_i h_; revert c37b0; simp [c38, h_]; done) | (go_ret; exact ⟨by first | rfl | (simp [errW_none, errW_some] <;> rfl) | (simp [*, errW_none, errW_some] <;> rfl), by repeat (first | (with_reducible first | exact HB.out | apply below_alloc | apply pw_below_drewN | apply below_drew1) | exact HB.out)⟩)
                · rw [if_neg c38] at H
                  have c38b0 : (t170 == 0) = false := beq_eq_false_iff_ne.mpr c38
                  have c38b1 : (t170 != 0) = true := bne_iff_ne.mpr c38
                  replace H := Option.bind_eq_some_iff.mp H
                  obtain ⟨t175, A440, H⟩ := H
                  replace H : (some t175) = some r := H
                  have A44 := Aside0.mk A440
                  clear A440
                  obtain rfl := Option.some.inj H
                  go_wp2_with (first | ((with_reducible refine gate_callee (f := 13) rfl ?_); refine goesL_ (some 116) rfl rfl Try.func13 (by kernel_rfl) rfl #[.int .i64 a0, .int .i64 1] rfl (by (try simp only [List.map_toArray, List.map_cons, List.map_nil]); first | done | rfl | (simp only [List.length_drop, List.length_take]; rfl)) ?_; (with_reducible refine (nat_Mul.calls kj26 a0 1 t169 t170 _ A34.out).mono ?_); rintro e w' ⟨rfl, ⟨nd, rfl⟩⟩; refine ⟨_, rfl, ?_⟩) | ((with_reducible refine gate_callee (f := 13) rfl ?_); refine goesL_ (some 121) rfl rfl Try.func13 (by kernel_rfl) rfl #[.int .i64 a0, .int .i64 0] rfl (by (try simp only [List.map_toArray, List.map_cons, List.map_nil]); first | done | rfl | (simp only [List.length_drop, List.length_take]; rfl)) ?_; (with_reducible refine (nat_Mul.calls kj26 a0 0 t171 t172 _ A35.out).mono ?_); rintro e w' ⟨rfl, ⟨nd, rfl⟩⟩; refine ⟨_, rfl, ?_⟩) | ((with_reducible refine gate_callee (f := 17) rfl ?_); refine goesL_ (some 125) rfl rfl Try.func17 (by kernel_rfl) rfl #[.int .i64 a0] rfl (by (try simp only [List.map_toArray, List.map_cons, List.map_nil]); first | done | rfl | (simp only [List.length_drop, List.length_take]; rfl)) ?_; (with_reducible refine (nat_Right.calls a0 t173 _ A36.out).mono ?_); rintro e w' ⟨rfl, ⟨nd, rfl⟩⟩; refine ⟨_, rfl, ?_⟩) | (go_at_call 10; (with_reducible refine (camshaftlaw10_known.calls  t175 _ A44.out).mono ?_); rintro e w45 ⟨rfl, hb⟩; have n0_ := Aside0.mk (below_step (by repeat (first | (with_reducible first | exact HB.out | apply below_alloc | apply pw_below_drewN | apply below_drew1) | exact HB.out)) hb); clear HB; have HB := n0_; clear n0_; (try clear hb); (try clear hb2); (try clear hk); (try clear hi)))
                  all_goals first | (exfalso; rename_i h_; revert c37b0; simp [beq_iff_eq.mp c38b0, h_]; done) | (exfalso; rename_i h_; revert c37b0; simp [c38, h_]; done) | (go_ret; exact ⟨by first | rfl | (simp [errW_none, errW_some] <;> rfl) | (simp [*, errW_none, errW_some] <;> rfl), by repeat (first | (with_reducible first | exact HB.out | apply below_alloc | apply pw_below_drewN | apply below_drew1) | exact HB.out)⟩)
              · rw [if_neg c37] at H
                have c37b0 : (t173 == (t170 == 0)) = false := by simpa using c37
                (try (have c37b1 : decide (t173 = (t170 == 0)) = false := by simpa using c37))
                (try (have c37b2 : (t173 == (t170 == 0)) = false := by simpa using c37))
                (try (have c37b3 : ¬ (t173 = (t170 == 0)) := by simpa using c37))
                clear c37
                obtain rfl := Option.some.inj H
                go_wp2_with (first | ((with_reducible refine gate_callee (f := 13) rfl ?_); refine goesL_ (some 116) rfl rfl Try.func13 (by kernel_rfl) rfl #[.int .i64 a0, .int .i64 1] rfl (by (try simp only [List.map_toArray, List.map_cons, List.map_nil]); first | done | rfl | (simp only [List.length_drop, List.length_take]; rfl)) ?_; (with_reducible refine (nat_Mul.calls kj26 a0 1 t169 t170 _ A34.out).mono ?_); rintro e w' ⟨rfl, ⟨nd, rfl⟩⟩; refine ⟨_, rfl, ?_⟩) | ((with_reducible refine gate_callee (f := 13) rfl ?_); refine goesL_ (some 121) rfl rfl Try.func13 (by kernel_rfl) rfl #[.int .i64 a0, .int .i64 0] rfl (by (try simp only [List.map_toArray, List.map_cons, List.map_nil]); first | done | rfl | (simp only [List.length_drop, List.length_take]; rfl)) ?_; (with_reducible refine (nat_Mul.calls kj26 a0 0 t171 t172 _ A35.out).mono ?_); rintro e w' ⟨rfl, ⟨nd, rfl⟩⟩; refine ⟨_, rfl, ?_⟩) | ((with_reducible refine gate_callee (f := 17) rfl ?_); refine goesL_ (some 125) rfl rfl Try.func17 (by kernel_rfl) rfl #[.int .i64 a0] rfl (by (try simp only [List.map_toArray, List.map_cons, List.map_nil]); first | done | rfl | (simp only [List.length_drop, List.length_take]; rfl)) ?_; (with_reducible refine (nat_Right.calls a0 t173 _ A36.out).mono ?_); rintro e w' ⟨rfl, ⟨nd, rfl⟩⟩; refine ⟨_, rfl, ?_⟩))
                all_goals first | (exfalso; rename_i h_; revert c37b0; simp [beq_iff_eq.mp c38b0, h_]; done) | (exfalso; rename_i h_; revert c37b0; simp [c38, h_]; done) | (go_ret; exact ⟨by first | rfl | (simp [errW_none, errW_some] <;> rfl) | (simp [*, errW_none, errW_some] <;> rfl), by repeat (first | (with_reducible first | exact HB.out | apply below_alloc | apply pw_below_drewN | apply below_drew1) | exact HB.out)⟩)

/-- THE ONE PURE STATEMENT of camshaftlaw10_NatOrders: yours. -/
def camshaftlaw10_NatOrders.Pure : Prop := ∀ (a0 : Int) (a1 : Int) (a2 : Int), (Lit.int .i64 a0).wf = true → (Lit.int .i64 a1).wf = true → (Lit.int .i64 a2).wf = true → ∃ k, camshaftlaw10_NatOrders.f k a0 a1 a2 = some true
theorem camshaftlaw10_NatOrders.walk (P : camshaftlaw10_NatOrders.Pure) (a0 : Int) (a1 : Int) (a2 : Int) (w : World) (w0 : (Lit.int .i64 a0).wf = true) (w1 : (Lit.int .i64 a1).wf = true) (w2 : (Lit.int .i64 a2).wf = true) :
    Calls Try.prog 4 #[.int .i64 a0, .int .i64 a1, .int .i64 a2] w fun e w' => e = .returned (.bool true) ∧ Below w.heap.size w w' := by
  obtain ⟨k, h⟩ := P a0 a1 a2 w0 w1 w2
  refine (camshaftlaw10_NatOrders.calls k a0 a1 a2 true w h).mono ?_
  rintro e w' ⟨rfl, hd⟩
  exact ⟨rfl, hd⟩

end Go.Proofs.Ytdkagkoglefncaa.Print
