/- WRITTEN BY A PROGRAM OF THE SESSION out of the translation: functions in plain Lean, and that the calls come to just these answers; Lean checks every line. -/
import Derived.Test.YtpjobjgfigplhaaPrint0
import Derived.Test.YtpjobjgfigplhaaPrint1
import Derived.Test.YtpjobjgfigplhaaPrint3
import Derived.Test.YtpjobjgfigplhaaPrint10
import Derived.Test.YtpjobjgfigplhaaPrint11
import Derived.Test.YtpjobjgfigplhaaPrint12
import Derived.Test.YtpjobjgfigplhaaPrint13
import Derived.Test.YtpjobjgfigplhaaPrint14
import Derived.Test.YtpjobjgfigplhaaPrint15
import Derived.Test.YtpjobjgfigplhaaPrintR
import Derived.Test.YtpjobjgfigplhaaPrint22
import Derived.Test.YtpjobjgfigplhaaPrint23
import Derived.Test.YtpjobjgfigplhaaPrint24
namespace Go.Proofs.Ytpjobjgfigplhaa.Print
open Go.RowKit Go.Proofs.YtpjobjgfigplhaaW.PrintWords Go.Proofs.YtpjobjgfigplhaaW.PrintLast Go.Proofs.YtpjobjgfigplhaaW.PrintMore
attribute [local go_sem] max2_int min2_int max_two min_two max_three min_three max_four min_four   -- for this text's walks alone
set_option linter.unusedVariables false
set_option linter.unusedSimpArgs false

/-! ### camshaftlaw14_RtaTells: function 3 -/
def camshaftlaw14_RtaTells.f (k : Nat) (l0 : List (S41)) (a1 : Int) (a2 : Int) : Option (Bool) := (camshaftlaw14_light.f k l0).bind fun t258 => (if t258 = true then ((camshaftlaw14_Plain.f k l0).bind fun t260 => ((rta_Next.f k l0 a1 a2).bind fun bt263 => ((camshaftref14_Next.f k t260 a1 a2).bind fun bt265 => ((rta_Response.f k l0 a1).bind fun bt267 => ((camshaftref14_Response.f k t260 a1).bind fun bt269 => ((rta_Accept.f k l0).bind fun bt271 => ((camshaftref14_Accept.f k t260).bind fun bt276 => ((rta_Right.f k l0).bind fun t281 => ((camshaftref14_Right.f k t260).bind fun t282 => (if (t281 == t282) = true then (if bt263.1 = bt265.1 then (if bt263.2 = bt265.2 then (if bt267.1 = bt269.1 then (if bt267.2 = bt269.2 then ((camshaftref02_Same.f k bt271.1 bt276.1).bind fun t283 => (if t283 = true then (if bt271.2.1 = bt276.2.1 then (if bt271.2.2 = bt276.2.2 then ((camshaftlaw14_known.f k).bind fun t284 => (some t284)) else (some false)) else (some false)) else (some false))) else (some false)) else (some false)) else (some false)) else (some false)) else (some false))))))))))) else ((camshaftlaw14_known.f k).bind fun t259 => (some t259)))
theorem camshaftlaw14_RtaTells.mono : ∀ a0 a1 a2 k, LeO (camshaftlaw14_RtaTells.f k a0 a1 a2) (camshaftlaw14_RtaTells.f (k + 1) a0 a1 a2) := by
  intro a0 a1 a2 k
  unfold camshaftlaw14_RtaTells.f
  repeat' first
      | (with_reducible exact camshaftlaw14_Plain.mono _ _)
      | (with_reducible exact camshaftlaw14_known.mono _)
      | (with_reducible exact camshaftlaw14_light.mono _ _)
      | (with_reducible exact camshaftref02_Same.mono _ _ _)
      | (with_reducible exact camshaftref14_Accept.mono _ _)
      | (with_reducible exact camshaftref14_Next.mono _ _ _ _)
      | (with_reducible exact camshaftref14_Response.mono _ _ _)
      | (with_reducible exact camshaftref14_Right.mono _ _)
      | (with_reducible exact rta_Accept.mono _ _)
      | (with_reducible exact rta_Next.mono _ _ _ _)
      | (with_reducible exact rta_Response.mono _ _ _)
      | (with_reducible exact rta_Right.mono _ _)
      | (with_reducible exact LeO.refl _)
      | (with_reducible exact LeO.none _)
      | (with_reducible refine LeO.ite ?_ ?_)
      | (with_reducible refine LeO.bind ?_ (fun _ => ?_))
      | exact camshaftlaw14_Plain.mono _ _
      | exact camshaftlaw14_known.mono _
      | exact camshaftlaw14_light.mono _ _
      | exact camshaftref02_Same.mono _ _ _
      | exact camshaftref14_Accept.mono _ _
      | exact camshaftref14_Next.mono _ _ _ _
      | exact camshaftref14_Response.mono _ _ _
      | exact camshaftref14_Right.mono _ _
      | exact rta_Accept.mono _ _
      | exact rta_Next.mono _ _ _ _
      | exact rta_Response.mono _ _ _
      | exact rta_Right.mono _ _
      | exact LeO.none _
      | refine LeO.ite ?_ ?_
      | refine LeO.bind ?_ (fun _ => ?_)
set_option maxHeartbeats 8000000 in
set_option maxRecDepth 100000 in
theorem camshaftlaw14_RtaTells.calls (k : Nat) (A0 : Option Addr) (c0 : Nat) (l0 : List (S41)) (a1 : Int) (a2 : Int) (r : Bool) (w : World) (hr0 : Kd.C k41 w A0 l0.length l0) (hc0 : l0.length ≤ c0) (hr : r = true) (h : camshaftlaw14_RtaTells.f k l0 a1 a2 = some r) :
    Calls Try.prog 3 #[.slice A0 l0.length c0, .int .i64 a1, .int .i64 a2] w fun e w' => e = .returned (.bool r) ∧ Below w.heap.size w w' := by
  have HR0 := Aside0.mk hr0
  have HC0 := Aside0.mk hc0
  clear hr0 hc0
  have HB := Aside0.mk (Below.refl w.heap.size w)
  have H : ((camshaftlaw14_light.f k l0).bind fun t258 => (if t258 = true then ((camshaftlaw14_Plain.f k l0).bind fun t260 => ((rta_Next.f k l0 a1 a2).bind fun bt263 => ((camshaftref14_Next.f k t260 a1 a2).bind fun bt265 => ((rta_Response.f k l0 a1).bind fun bt267 => ((camshaftref14_Response.f k t260 a1).bind fun bt269 => ((rta_Accept.f k l0).bind fun bt271 => ((camshaftref14_Accept.f k t260).bind fun bt276 => ((rta_Right.f k l0).bind fun t281 => ((camshaftref14_Right.f k t260).bind fun t282 => (if (t281 == t282) = true then (if bt263.1 = bt265.1 then (if bt263.2 = bt265.2 then (if bt267.1 = bt269.1 then (if bt267.2 = bt269.2 then ((camshaftref02_Same.f k bt271.1 bt276.1).bind fun t283 => (if t283 = true then (if bt271.2.1 = bt276.2.1 then (if bt271.2.2 = bt276.2.2 then ((camshaftlaw14_known.f k).bind fun t284 => (some t284)) else (some false)) else (some false)) else (some false))) else (some false)) else (some false)) else (some false)) else (some false)) else (some false))))))))))) else ((camshaftlaw14_known.f k).bind fun t259 => (some t259)))) = some r := h
  clear h
  replace H := Option.bind_eq_some_iff.mp H
  obtain ⟨t258, A40, H⟩ := H
  replace H : (if t258 = true then ((camshaftlaw14_Plain.f k l0).bind fun t260 => ((rta_Next.f k l0 a1 a2).bind fun bt263 => ((camshaftref14_Next.f k t260 a1 a2).bind fun bt265 => ((rta_Response.f k l0 a1).bind fun bt267 => ((camshaftref14_Response.f k t260 a1).bind fun bt269 => ((rta_Accept.f k l0).bind fun bt271 => ((camshaftref14_Accept.f k t260).bind fun bt276 => ((rta_Right.f k l0).bind fun t281 => ((camshaftref14_Right.f k t260).bind fun t282 => (if (t281 == t282) = true then (if bt263.1 = bt265.1 then (if bt263.2 = bt265.2 then (if bt267.1 = bt269.1 then (if bt267.2 = bt269.2 then ((camshaftref02_Same.f k bt271.1 bt276.1).bind fun t283 => (if t283 = true then (if bt271.2.1 = bt276.2.1 then (if bt271.2.2 = bt276.2.2 then ((camshaftlaw14_known.f k).bind fun t284 => (some t284)) else (some false)) else (some false)) else (some false))) else (some false)) else (some false)) else (some false)) else (some false)) else (some false))))))))))) else ((camshaftlaw14_known.f k).bind fun t259 => (some t259))) = some r := H
  have A4 := Aside0.mk A40
  clear A40
  by_cases c5 : t258 = true
  · subst c5
    have H1 : ((camshaftlaw14_Plain.f k l0).bind fun t260 => ((rta_Next.f k l0 a1 a2).bind fun bt263 => ((camshaftref14_Next.f k t260 a1 a2).bind fun bt265 => ((rta_Response.f k l0 a1).bind fun bt267 => ((camshaftref14_Response.f k t260 a1).bind fun bt269 => ((rta_Accept.f k l0).bind fun bt271 => ((camshaftref14_Accept.f k t260).bind fun bt276 => ((rta_Right.f k l0).bind fun t281 => ((camshaftref14_Right.f k t260).bind fun t282 => (if (t281 == t282) = true then (if bt263.1 = bt265.1 then (if bt263.2 = bt265.2 then (if bt267.1 = bt269.1 then (if bt267.2 = bt269.2 then ((camshaftref02_Same.f k bt271.1 bt276.1).bind fun t283 => (if t283 = true then (if bt271.2.1 = bt276.2.1 then (if bt271.2.2 = bt276.2.2 then ((camshaftlaw14_known.f k).bind fun t284 => (some t284)) else (some false)) else (some false)) else (some false))) else (some false)) else (some false)) else (some false)) else (some false)) else (some false))))))))))) = some r := by rw [if_pos rfl] at H; exact H
    clear H
    have H := H1
    clear H1
    replace H := Option.bind_eq_some_iff.mp H
    obtain ⟨t260, A60, H⟩ := H
    replace H : ((rta_Next.f k l0 a1 a2).bind fun bt263 => ((camshaftref14_Next.f k t260 a1 a2).bind fun bt265 => ((rta_Response.f k l0 a1).bind fun bt267 => ((camshaftref14_Response.f k t260 a1).bind fun bt269 => ((rta_Accept.f k l0).bind fun bt271 => ((camshaftref14_Accept.f k t260).bind fun bt276 => ((rta_Right.f k l0).bind fun t281 => ((camshaftref14_Right.f k t260).bind fun t282 => (if (t281 == t282) = true then (if bt263.1 = bt265.1 then (if bt263.2 = bt265.2 then (if bt267.1 = bt269.1 then (if bt267.2 = bt269.2 then ((camshaftref02_Same.f k bt271.1 bt276.1).bind fun t283 => (if t283 = true then (if bt271.2.1 = bt276.2.1 then (if bt271.2.2 = bt276.2.2 then ((camshaftlaw14_known.f k).bind fun t284 => (some t284)) else (some false)) else (some false)) else (some false))) else (some false)) else (some false)) else (some false)) else (some false)) else (some false)))))))))) = some r := H
    have A6 := Aside0.mk A60
    clear A60
    replace H := Option.bind_eq_some_iff.mp H
    obtain ⟨⟨t263, t264⟩, A70, H⟩ := H
    replace H : ((camshaftref14_Next.f k t260 a1 a2).bind fun bt265 => ((rta_Response.f k l0 a1).bind fun bt267 => ((camshaftref14_Response.f k t260 a1).bind fun bt269 => ((rta_Accept.f k l0).bind fun bt271 => ((camshaftref14_Accept.f k t260).bind fun bt276 => ((rta_Right.f k l0).bind fun t281 => ((camshaftref14_Right.f k t260).bind fun t282 => (if (t281 == t282) = true then (if t263 = bt265.1 then (if t264 = bt265.2 then (if bt267.1 = bt269.1 then (if bt267.2 = bt269.2 then ((camshaftref02_Same.f k bt271.1 bt276.1).bind fun t283 => (if t283 = true then (if bt271.2.1 = bt276.2.1 then (if bt271.2.2 = bt276.2.2 then ((camshaftlaw14_known.f k).bind fun t284 => (some t284)) else (some false)) else (some false)) else (some false))) else (some false)) else (some false)) else (some false)) else (some false)) else (some false))))))))) = some r := H
    have A7 := Aside0.mk A70
    clear A70
    replace H := Option.bind_eq_some_iff.mp H
    obtain ⟨⟨t265, t266⟩, A80, H⟩ := H
    replace H : ((rta_Response.f k l0 a1).bind fun bt267 => ((camshaftref14_Response.f k t260 a1).bind fun bt269 => ((rta_Accept.f k l0).bind fun bt271 => ((camshaftref14_Accept.f k t260).bind fun bt276 => ((rta_Right.f k l0).bind fun t281 => ((camshaftref14_Right.f k t260).bind fun t282 => (if (t281 == t282) = true then (if t263 = t265 then (if t264 = t266 then (if bt267.1 = bt269.1 then (if bt267.2 = bt269.2 then ((camshaftref02_Same.f k bt271.1 bt276.1).bind fun t283 => (if t283 = true then (if bt271.2.1 = bt276.2.1 then (if bt271.2.2 = bt276.2.2 then ((camshaftlaw14_known.f k).bind fun t284 => (some t284)) else (some false)) else (some false)) else (some false))) else (some false)) else (some false)) else (some false)) else (some false)) else (some false)))))))) = some r := H
    have A8 := Aside0.mk A80
    clear A80
    replace H := Option.bind_eq_some_iff.mp H
    obtain ⟨⟨t267, t268⟩, A90, H⟩ := H
    replace H : ((camshaftref14_Response.f k t260 a1).bind fun bt269 => ((rta_Accept.f k l0).bind fun bt271 => ((camshaftref14_Accept.f k t260).bind fun bt276 => ((rta_Right.f k l0).bind fun t281 => ((camshaftref14_Right.f k t260).bind fun t282 => (if (t281 == t282) = true then (if t263 = t265 then (if t264 = t266 then (if t267 = bt269.1 then (if t268 = bt269.2 then ((camshaftref02_Same.f k bt271.1 bt276.1).bind fun t283 => (if t283 = true then (if bt271.2.1 = bt276.2.1 then (if bt271.2.2 = bt276.2.2 then ((camshaftlaw14_known.f k).bind fun t284 => (some t284)) else (some false)) else (some false)) else (some false))) else (some false)) else (some false)) else (some false)) else (some false)) else (some false))))))) = some r := H
    have A9 := Aside0.mk A90
    clear A90
    replace H := Option.bind_eq_some_iff.mp H
    obtain ⟨⟨t269, t270⟩, A100, H⟩ := H
    replace H : ((rta_Accept.f k l0).bind fun bt271 => ((camshaftref14_Accept.f k t260).bind fun bt276 => ((rta_Right.f k l0).bind fun t281 => ((camshaftref14_Right.f k t260).bind fun t282 => (if (t281 == t282) = true then (if t263 = t265 then (if t264 = t266 then (if t267 = t269 then (if t268 = t270 then ((camshaftref02_Same.f k bt271.1 bt276.1).bind fun t283 => (if t283 = true then (if bt271.2.1 = bt276.2.1 then (if bt271.2.2 = bt276.2.2 then ((camshaftlaw14_known.f k).bind fun t284 => (some t284)) else (some false)) else (some false)) else (some false))) else (some false)) else (some false)) else (some false)) else (some false)) else (some false)))))) = some r := H
    have A10 := Aside0.mk A100
    clear A100
    replace H := Option.bind_eq_some_iff.mp H
    obtain ⟨⟨t271, t272, t273⟩, A110, H⟩ := H
    replace H : ((camshaftref14_Accept.f k t260).bind fun bt276 => ((rta_Right.f k l0).bind fun t281 => ((camshaftref14_Right.f k t260).bind fun t282 => (if (t281 == t282) = true then (if t263 = t265 then (if t264 = t266 then (if t267 = t269 then (if t268 = t270 then ((camshaftref02_Same.f k t271 bt276.1).bind fun t283 => (if t283 = true then (if t272 = bt276.2.1 then (if t273 = bt276.2.2 then ((camshaftlaw14_known.f k).bind fun t284 => (some t284)) else (some false)) else (some false)) else (some false))) else (some false)) else (some false)) else (some false)) else (some false)) else (some false))))) = some r := H
    have A11 := Aside0.mk A110
    clear A110
    replace H := Option.bind_eq_some_iff.mp H
    obtain ⟨⟨t276, t277, t278⟩, A120, H⟩ := H
    replace H : ((rta_Right.f k l0).bind fun t281 => ((camshaftref14_Right.f k t260).bind fun t282 => (if (t281 == t282) = true then (if t263 = t265 then (if t264 = t266 then (if t267 = t269 then (if t268 = t270 then ((camshaftref02_Same.f k t271 t276).bind fun t283 => (if t283 = true then (if t272 = t277 then (if t273 = t278 then ((camshaftlaw14_known.f k).bind fun t284 => (some t284)) else (some false)) else (some false)) else (some false))) else (some false)) else (some false)) else (some false)) else (some false)) else (some false)))) = some r := H
    have A12 := Aside0.mk A120
    clear A120
    replace H := Option.bind_eq_some_iff.mp H
    obtain ⟨t281, A130, H⟩ := H
    replace H : ((camshaftref14_Right.f k t260).bind fun t282 => (if (t281 == t282) = true then (if t263 = t265 then (if t264 = t266 then (if t267 = t269 then (if t268 = t270 then ((camshaftref02_Same.f k t271 t276).bind fun t283 => (if t283 = true then (if t272 = t277 then (if t273 = t278 then ((camshaftlaw14_known.f k).bind fun t284 => (some t284)) else (some false)) else (some false)) else (some false))) else (some false)) else (some false)) else (some false)) else (some false)) else (some false))) = some r := H
    have A13 := Aside0.mk A130
    clear A130
    replace H := Option.bind_eq_some_iff.mp H
    obtain ⟨t282, A140, H⟩ := H
    replace H : (if (t281 == t282) = true then (if t263 = t265 then (if t264 = t266 then (if t267 = t269 then (if t268 = t270 then ((camshaftref02_Same.f k t271 t276).bind fun t283 => (if t283 = true then (if t272 = t277 then (if t273 = t278 then ((camshaftlaw14_known.f k).bind fun t284 => (some t284)) else (some false)) else (some false)) else (some false))) else (some false)) else (some false)) else (some false)) else (some false)) else (some false)) = some r := H
    have A14 := Aside0.mk A140
    clear A140
    by_cases c15 : (t281 == t282) = true
    · rw [if_pos c15] at H
      have c15b0 : (t281 == t282) = true := c15
      (try (have c15b1 : decide (t281 = t282) = true := by simpa using c15))
      (try (have c15b2 : (t281 == t282) = true := by simpa using c15))
      clear c15
      by_cases c16 : t263 = t265
      · rw [if_pos c16] at H
        have c16b0 : (t263 == t265) = true := beq_iff_eq.mpr c16
        have c16b1 : (t263 != t265) = false := bne_eq_false_iff_eq.mpr c16
        clear c16
        by_cases c17 : t264 = t266
        · rw [if_pos c17] at H
          have c17b0 : (t264 == t266) = true := beq_iff_eq.mpr c17
          have c17b1 : (t264 != t266) = false := bne_eq_false_iff_eq.mpr c17
          clear c17
          by_cases c18 : t267 = t269
          · rw [if_pos c18] at H
            have c18b0 : (t267 == t269) = true := beq_iff_eq.mpr c18
            have c18b1 : (t267 != t269) = false := bne_eq_false_iff_eq.mpr c18
            clear c18
            by_cases c19 : t268 = t270
            · rw [if_pos c19] at H
              have c19b0 : (t268 == t270) = true := beq_iff_eq.mpr c19
              have c19b1 : (t268 != t270) = false := bne_eq_false_iff_eq.mpr c19
              clear c19
              replace H := Option.bind_eq_some_iff.mp H
              obtain ⟨t283, A200, H⟩ := H
              replace H : (if t283 = true then (if t272 = t277 then (if t273 = t278 then ((camshaftlaw14_known.f k).bind fun t284 => (some t284)) else (some false)) else (some false)) else (some false)) = some r := H
              have A20 := Aside0.mk A200
              clear A200
              by_cases c21 : t283 = true
              · subst c21
                have H1 : (if t272 = t277 then (if t273 = t278 then ((camshaftlaw14_known.f k).bind fun t284 => (some t284)) else (some false)) else (some false)) = some r := by rw [if_pos rfl] at H; exact H
                clear H
                have H := H1
                clear H1
                by_cases c22 : t272 = t277
                · rw [if_pos c22] at H
                  have c22b0 : (t272 == t277) = true := beq_iff_eq.mpr c22
                  have c22b1 : (t272 != t277) = false := bne_eq_false_iff_eq.mpr c22
                  clear c22
                  by_cases c23 : t273 = t278
                  · rw [if_pos c23] at H
                    have c23b0 : (t273 == t278) = true := beq_iff_eq.mpr c23
                    have c23b1 : (t273 != t278) = false := bne_eq_false_iff_eq.mpr c23
                    clear c23
                    replace H := Option.bind_eq_some_iff.mp H
                    obtain ⟨t284, A240, H⟩ := H
                    replace H : (some t284) = some r := H
                    have A24 := Aside0.mk A240
                    clear A240
                    obtain rfl := Option.some.inj H
                    go_enter Try.func3, Try.ntmps3
                    go_wp2_with (first | ((with_reducible refine gate_callee (f := 9) rfl ?_); refine goesL_ (some 23) rfl rfl Try.func9 (by kernel_rfl) rfl #[.slice A0 l0.length c0] rfl (by (try simp only [List.map_toArray, List.map_cons, List.map_nil]); first | done | rfl | (simp only [List.length_drop, List.length_take]; rfl)) ?_; (with_reducible refine (camshaftlaw14_light.calls k _ _ l0 true _ ?side1 ?side2 A4.out).mono ?_); (case side1 => repeat (first | exact HR0.out | (with_reducible refine Kd.C_alloc ?_ _) | (with_reducible refine Kd.C_drewN ?_ _) | (with_reducible refine Kd.C_drew ?_))); (case side2 => exact HC0.out); rintro e w' ⟨rfl, ⟨nd, rfl⟩⟩; refine ⟨_, rfl, ?_⟩) | ((with_reducible refine gate_callee (f := 11) rfl ?_); refine goesL_ (some 27) rfl rfl Try.func11 (by kernel_rfl) rfl #[.slice A0 l0.length c0] rfl (by (try simp only [List.map_toArray, List.map_cons, List.map_nil]); first | done | rfl | (simp only [List.length_drop, List.length_take]; rfl)) ?_; (with_reducible refine (camshaftlaw14_Plain.calls k _ _ l0 t260 _ ?side1 ?side2 A6.out).mono ?_); (case side1 => repeat (first | exact HR0.out | (with_reducible refine Kd.C_alloc ?_ _) | (with_reducible refine Kd.C_drewN ?_ _) | (with_reducible refine Kd.C_drew ?_))); (case side2 => exact HC0.out); rintro e w25 ⟨v261, rfl, ho0, hb⟩; refine ⟨_, rfl, ?_⟩; have n0_ := Aside0.mk (Kd.R_lower ho0 (below_size (by repeat (first | (with_reducible first | exact HB.out | apply below_alloc | apply pw_below_drewN | apply below_drew1) | exact HB.out)))); have n1_ := Aside0.mk (below_step (by repeat (first | (with_reducible first | exact HB.out | apply below_alloc | apply pw_below_drewN | apply below_drew1) | exact HB.out)) hb); clear HB; have HO262 := n0_; have HB := n1_; clear n0_ n1_; (try clear hb); (try clear hb2); (try clear hk); (try clear hi); (try clear ho0)) | ((with_reducible refine gate_callee (f := 12) rfl ?_); refine goesL_ (some 32) rfl rfl Try.func12 (by kernel_rfl) rfl #[.slice A0 l0.length c0, .int .i64 a1, .int .i64 a2] rfl (by (try simp only [List.map_toArray, List.map_cons, List.map_nil]); first | done | rfl | (simp only [List.length_drop, List.length_take]; rfl)) ?_; (with_reducible refine (rta_Next.calls k _ _ l0 a1 a2 t263 t264 _ ?side1 ?side2 A7.out).mono ?_); (case side1 => repeat (first | exact (Kd.C_below HR0.out HB.out) | (with_reducible refine Kd.C_alloc ?_ _) | (with_reducible refine Kd.C_drewN ?_ _) | (with_reducible refine Kd.C_drew ?_))); (case side2 => exact HC0.out); rintro e w26 ⟨rfl, hb⟩; refine ⟨_, rfl, ?_⟩; have n0_ := Aside0.mk (Kd.R_below (by (with_reducible repeat (first | apply Kd.R_alloc | apply Kd.R_drewN | apply Kd.R_drew)); exact HO262.out) hb); have n1_ := Aside0.mk (below_step (by repeat (first | (with_reducible first | exact HB.out | apply below_alloc | apply pw_below_drewN | apply below_drew1) | exact HB.out)) hb); clear HO262; clear HB; have HO262 := n0_; have HB := n1_; clear n0_ n1_; (try clear hb); (try clear hb2); (try clear hk); (try clear hi); obtain ⟨Ao27, co27, eo27⟩ := Kd.R_slice HO262.out; subst eo27) | ((with_reducible refine gate_callee (f := 13) rfl ?_); refine goesL_ (some 39) rfl rfl Try.func13 (by kernel_rfl) rfl #[.slice Ao27 t260.length co27, .int .i64 a1, .int .i64 a2] rfl (by (try simp only [List.map_toArray, List.map_cons, List.map_nil]); first | done | rfl | (simp only [List.length_drop, List.length_take]; rfl)) ?_; (with_reducible refine (camshaftref14_Next.calls k _ _ t260 a1 a2 t265 t266 _ ?side1 ?side2 A8.out).mono ?_); (case side1 => repeat (first | exact (Kd.R_reads' HO262.out).2.2 | (with_reducible refine Kd.C_alloc ?_ _) | (with_reducible refine Kd.C_drewN ?_ _) | (with_reducible refine Kd.C_drew ?_))); (case side2 => exact (Kd.R_reads' HO262.out).2.1); rintro e w28 ⟨rfl, hb⟩; refine ⟨_, rfl, ?_⟩; have n0_ := Aside0.mk (Kd.R_below (by (with_reducible repeat (first | apply Kd.R_alloc | apply Kd.R_drewN | apply Kd.R_drew)); exact HO262.out) hb); have n1_ := Aside0.mk (below_step (by repeat (first | (with_reducible first | exact HB.out | apply below_alloc | apply pw_below_drewN | apply below_drew1) | exact HB.out)) hb); clear HO262; clear HB; have HO262 := n0_; have HB := n1_; clear n0_ n1_; (try clear hb); (try clear hb2); (try clear hk); (try clear hi)) | ((with_reducible refine gate_callee (f := 14) rfl ?_); refine goesL_ (some 45) rfl rfl Try.func14 (by kernel_rfl) rfl #[.slice A0 l0.length c0, .int .i64 a1] rfl (by (try simp only [List.map_toArray, List.map_cons, List.map_nil]); first | done | rfl | (simp only [List.length_drop, List.length_take]; rfl)) ?_; (with_reducible refine (rta_Response.calls k _ _ l0 a1 t267 t268 _ ?side1 ?side2 A9.out).mono ?_); (case side1 => repeat (first | exact (Kd.C_below HR0.out HB.out) | (with_reducible refine Kd.C_alloc ?_ _) | (with_reducible refine Kd.C_drewN ?_ _) | (with_reducible refine Kd.C_drew ?_))); (case side2 => exact HC0.out); rintro e w29 ⟨rfl, hb⟩; refine ⟨_, rfl, ?_⟩; have n0_ := Aside0.mk (Kd.R_below (by (with_reducible repeat (first | apply Kd.R_alloc | apply Kd.R_drewN | apply Kd.R_drew)); exact HO262.out) hb); have n1_ := Aside0.mk (below_step (by repeat (first | (with_reducible first | exact HB.out | apply below_alloc | apply pw_below_drewN | apply below_drew1) | exact HB.out)) hb); clear HO262; clear HB; have HO262 := n0_; have HB := n1_; clear n0_ n1_; (try clear hb); (try clear hb2); (try clear hk); (try clear hi)) | ((with_reducible refine gate_callee (f := 15) rfl ?_); refine goesL_ (some 51) rfl rfl Try.func15 (by kernel_rfl) rfl #[.slice Ao27 t260.length co27, .int .i64 a1] rfl (by (try simp only [List.map_toArray, List.map_cons, List.map_nil]); first | done | rfl | (simp only [List.length_drop, List.length_take]; rfl)) ?_; (with_reducible refine (camshaftref14_Response.calls k _ _ t260 a1 t269 t270 _ ?side1 ?side2 A10.out).mono ?_); (case side1 => repeat (first | exact (Kd.R_reads' HO262.out).2.2 | (with_reducible refine Kd.C_alloc ?_ _) | (with_reducible refine Kd.C_drewN ?_ _) | (with_reducible refine Kd.C_drew ?_))); (case side2 => exact (Kd.R_reads' HO262.out).2.1); rintro e w30 ⟨rfl, hb⟩; refine ⟨_, rfl, ?_⟩; have n0_ := Aside0.mk (Kd.R_below (by (with_reducible repeat (first | apply Kd.R_alloc | apply Kd.R_drewN | apply Kd.R_drew)); exact HO262.out) hb); have n1_ := Aside0.mk (below_step (by repeat (first | (with_reducible first | exact HB.out | apply below_alloc | apply pw_below_drewN | apply below_drew1) | exact HB.out)) hb); clear HO262; clear HB; have HO262 := n0_; have HB := n1_; clear n0_ n1_; (try clear hb); (try clear hb2); (try clear hk); (try clear hi)) | ((with_reducible refine gate_callee (f := 16) rfl ?_); refine goesL_ (some 56) rfl rfl Try.func16 (by kernel_rfl) rfl #[.slice A0 l0.length c0] rfl (by (try simp only [List.map_toArray, List.map_cons, List.map_nil]); first | done | rfl | (simp only [List.length_drop, List.length_take]; rfl)) ?_; (with_reducible refine (rta_Accept.calls k _ _ l0 t271 t272 t273 _ ?side1 ?side2 A11.out).mono ?_); (case side1 => repeat (first | exact (Kd.C_below HR0.out HB.out) | (with_reducible refine Kd.C_alloc ?_ _) | (with_reducible refine Kd.C_drewN ?_ _) | (with_reducible refine Kd.C_drew ?_))); (case side2 => exact HC0.out); rintro e w31 ⟨v274, rfl, ho0, hb⟩; refine ⟨_, rfl, ?_⟩; have n0_ := Aside0.mk (Kd.R_below (by (with_reducible repeat (first | apply Kd.R_alloc | apply Kd.R_drewN | apply Kd.R_drew)); exact HO262.out) hb); have n1_ := Aside0.mk (Kd.R_lower ho0 (below_size (by repeat (first | (with_reducible first | exact HB.out | apply below_alloc | apply pw_below_drewN | apply below_drew1) | exact HB.out)))); have n2_ := Aside0.mk (below_step (by repeat (first | (with_reducible first | exact HB.out | apply below_alloc | apply pw_below_drewN | apply below_drew1) | exact HB.out)) hb); clear HO262; clear HB; have HO262 := n0_; have HO275 := n1_; have HB := n2_; clear n0_ n1_ n2_; (try clear hb); (try clear hb2); (try clear hk); (try clear hi); (try clear ho0)) | ((with_reducible refine gate_callee (f := 17) rfl ?_); refine goesL_ (some 62) rfl rfl Try.func17 (by kernel_rfl) rfl #[.slice Ao27 t260.length co27] rfl (by (try simp only [List.map_toArray, List.map_cons, List.map_nil]); first | done | rfl | (simp only [List.length_drop, List.length_take]; rfl)) ?_; (with_reducible refine (camshaftref14_Accept.calls k _ _ t260 t276 t277 t278 _ ?side1 ?side2 A12.out).mono ?_); (case side1 => repeat (first | exact (Kd.R_reads' HO262.out).2.2 | (with_reducible refine Kd.C_alloc ?_ _) | (with_reducible refine Kd.C_drewN ?_ _) | (with_reducible refine Kd.C_drew ?_))); (case side2 => exact (Kd.R_reads' HO262.out).2.1); rintro e w32 ⟨v279, rfl, ho0, hb⟩; refine ⟨_, rfl, ?_⟩; have n0_ := Aside0.mk (Kd.R_below (by (with_reducible repeat (first | apply Kd.R_alloc | apply Kd.R_drewN | apply Kd.R_drew)); exact HO262.out) hb); have n1_ := Aside0.mk (Kd.R_elder' (by (with_reducible repeat (first | apply Kd.R_alloc | apply Kd.R_drewN | apply Kd.R_drew)); exact HO275.out) (Kd.R_base ho0) hb); have n2_ := Aside0.mk (Kd.R_lower (Kd.R_new' ho0 (Kd.R_lt (by (with_reducible repeat (first | apply Kd.R_alloc | apply Kd.R_drewN | apply Kd.R_drew)); exact HO275.out))) (below_size (by repeat (first | (with_reducible first | exact HB.out | apply below_alloc | apply pw_below_drewN | apply below_drew1) | exact HB.out)))); have n3_ := Aside0.mk (below_step (by repeat (first | (with_reducible first | exact HB.out | apply below_alloc | apply pw_below_drewN | apply below_drew1) | exact HB.out)) hb); clear HO262; clear HO275; clear HB; have HO262 := n0_; have HO275 := n1_; have HO280 := n2_; have HB := n3_; clear n0_ n1_ n2_ n3_; (try clear hb); (try clear hb2); (try clear hk); (try clear hi); (try clear ho0)) | ((with_reducible refine gate_callee (f := 18) rfl ?_); refine goesL_ (some 67) rfl rfl Try.func18 (by kernel_rfl) rfl #[.slice A0 l0.length c0] rfl (by (try simp only [List.map_toArray, List.map_cons, List.map_nil]); first | done | rfl | (simp only [List.length_drop, List.length_take]; rfl)) ?_; (with_reducible refine (rta_Right.calls k _ _ l0 t281 _ ?side1 ?side2 A13.out).mono ?_); (case side1 => repeat (first | exact (Kd.C_below HR0.out HB.out) | (with_reducible refine Kd.C_alloc ?_ _) | (with_reducible refine Kd.C_drewN ?_ _) | (with_reducible refine Kd.C_drew ?_))); (case side2 => exact HC0.out); rintro e w33 ⟨rfl, hb⟩; refine ⟨_, rfl, ?_⟩; have n0_ := Aside0.mk (Kd.R_below (by (with_reducible repeat (first | apply Kd.R_alloc | apply Kd.R_drewN | apply Kd.R_drew)); exact HO262.out) hb); have n1_ := Aside0.mk (Kd.R_below (by (with_reducible repeat (first | apply Kd.R_alloc | apply Kd.R_drewN | apply Kd.R_drew)); exact HO275.out) hb); have n2_ := Aside0.mk (Kd.R_below (by (with_reducible repeat (first | apply Kd.R_alloc | apply Kd.R_drewN | apply Kd.R_drew)); exact HO280.out) hb); have n3_ := Aside0.mk (below_step (by repeat (first | (with_reducible first | exact HB.out | apply below_alloc | apply pw_below_drewN | apply below_drew1) | exact HB.out)) hb); clear HO262; clear HO275; clear HO280; clear HB; have HO262 := n0_; have HO275 := n1_; have HO280 := n2_; have HB := n3_; clear n0_ n1_ n2_ n3_; (try clear hb); (try clear hb2); (try clear hk); (try clear hi)) | ((with_reducible refine gate_callee (f := 19) rfl ?_); refine goesL_ (some 69) rfl rfl Try.func19 (by kernel_rfl) rfl #[.slice Ao27 t260.length co27] rfl (by (try simp only [List.map_toArray, List.map_cons, List.map_nil]); first | done | rfl | (simp only [List.length_drop, List.length_take]; rfl)) ?_; (with_reducible refine (camshaftref14_Right.calls k _ _ t260 t282 _ ?side1 ?side2 A14.out).mono ?_); (case side1 => repeat (first | exact (Kd.R_reads' HO262.out).2.2 | (with_reducible refine Kd.C_alloc ?_ _) | (with_reducible refine Kd.C_drewN ?_ _) | (with_reducible refine Kd.C_drew ?_))); (case side2 => exact (Kd.R_reads' HO262.out).2.1); rintro e w34 ⟨rfl, hb⟩; refine ⟨_, rfl, ?_⟩; have n0_ := Aside0.mk (Kd.R_below (by (with_reducible repeat (first | apply Kd.R_alloc | apply Kd.R_drewN | apply Kd.R_drew)); exact HO262.out) hb); have n1_ := Aside0.mk (Kd.R_below (by (with_reducible repeat (first | apply Kd.R_alloc | apply Kd.R_drewN | apply Kd.R_drew)); exact HO275.out) hb); have n2_ := Aside0.mk (Kd.R_below (by (with_reducible repeat (first | apply Kd.R_alloc | apply Kd.R_drewN | apply Kd.R_drew)); exact HO280.out) hb); have n3_ := Aside0.mk (below_step (by repeat (first | (with_reducible first | exact HB.out | apply below_alloc | apply pw_below_drewN | apply below_drew1) | exact HB.out)) hb); clear HO262; clear HO275; clear HO280; clear HB; have HO262 := n0_; have HO275 := n1_; have HO280 := n2_; have HB := n3_; clear n0_ n1_ n2_ n3_; (try clear hb); (try clear hb2); (try clear hk); (try clear hi); obtain ⟨Ao35, co35, eo35⟩ := Kd.R_slice HO275.out; subst eo35; obtain ⟨Ao36, co36, eo36⟩ := Kd.R_slice HO280.out; subst eo36) | (go_at_call 20; (with_reducible refine (camshaftref02_Same.calls k _ _ t271 _ _ t276 true _ ?side1 ?side2 ?side3 ?side4 A20.out).mono ?_); (case side1 => repeat (first | exact (Kd.R_reads' HO275.out).2.2 | (with_reducible refine Kd.C_alloc ?_ _) | (with_reducible refine Kd.C_drewN ?_ _) | (with_reducible refine Kd.C_drew ?_))); (case side2 => exact (Kd.R_reads' HO275.out).2.1); (case side3 => repeat (first | exact (Kd.R_reads' HO280.out).2.2 | (with_reducible refine Kd.C_alloc ?_ _) | (with_reducible refine Kd.C_drewN ?_ _) | (with_reducible refine Kd.C_drew ?_))); (case side4 => exact (Kd.R_reads' HO280.out).2.1); rintro e w' ⟨rfl, ⟨nd, rfl⟩⟩) | (go_at_call 10; (with_reducible refine (camshaftlaw14_known.calls k  t284 _ A24.out).mono ?_); rintro e w37 ⟨rfl, hb⟩; have n0_ := Aside0.mk (Kd.R_below (by (with_reducible repeat (first | apply Kd.R_alloc | apply Kd.R_drewN | apply Kd.R_drew)); exact HO262.out) hb); have n1_ := Aside0.mk (Kd.R_below (by (with_reducible repeat (first | apply Kd.R_alloc | apply Kd.R_drewN | apply Kd.R_drew)); exact HO275.out) hb); have n2_ := Aside0.mk (Kd.R_below (by (with_reducible repeat (first | apply Kd.R_alloc | apply Kd.R_drewN | apply Kd.R_drew)); exact HO280.out) hb); have n3_ := Aside0.mk (below_step (by repeat (first | (with_reducible first | exact HB.out | apply below_alloc | apply pw_below_drewN | apply below_drew1) | exact HB.out)) hb); clear HO262; clear HO275; clear HO280; clear HB; have HO262 := n0_; have HO275 := n1_; have HO280 := n2_; have HB := n3_; clear n0_ n1_ n2_ n3_; (try clear hb); (try clear hb2); (try clear hk); (try clear hi)))
                    go_ret
                    exact ⟨by first | rfl | (simp [errW_none, errW_some] <;> rfl) | (simp [*, errW_none, errW_some] <;> rfl), by repeat (first | (with_reducible first | exact HB.out | apply below_alloc | apply pw_below_drewN | apply below_drew1) | exact HB.out)⟩
                  · rw [if_neg c23] at H
                    have c23b0 : (t273 == t278) = false := beq_eq_false_iff_ne.mpr c23
                    have c23b1 : (t273 != t278) = true := bne_iff_ne.mpr c23
                    obtain rfl := Option.some.inj H
                    cases hr
                · rw [if_neg c22] at H
                  have c22b0 : (t272 == t277) = false := beq_eq_false_iff_ne.mpr c22
                  have c22b1 : (t272 != t277) = true := bne_iff_ne.mpr c22
                  obtain rfl := Option.some.inj H
                  cases hr
              · replace c21 := Bool.eq_false_iff.mpr c21
                subst c21
                have H1 : (some false) = some r := by rw [if_neg (show ¬ (false = true) by decide)] at H; exact H
                clear H
                have H := H1
                clear H1
                obtain rfl := Option.some.inj H
                cases hr
            · rw [if_neg c19] at H
              have c19b0 : (t268 == t270) = false := beq_eq_false_iff_ne.mpr c19
              have c19b1 : (t268 != t270) = true := bne_iff_ne.mpr c19
              obtain rfl := Option.some.inj H
              cases hr
          · rw [if_neg c18] at H
            have c18b0 : (t267 == t269) = false := beq_eq_false_iff_ne.mpr c18
            have c18b1 : (t267 != t269) = true := bne_iff_ne.mpr c18
            obtain rfl := Option.some.inj H
            cases hr
        · rw [if_neg c17] at H
          have c17b0 : (t264 == t266) = false := beq_eq_false_iff_ne.mpr c17
          have c17b1 : (t264 != t266) = true := bne_iff_ne.mpr c17
          obtain rfl := Option.some.inj H
          cases hr
      · rw [if_neg c16] at H
        have c16b0 : (t263 == t265) = false := beq_eq_false_iff_ne.mpr c16
        have c16b1 : (t263 != t265) = true := bne_iff_ne.mpr c16
        obtain rfl := Option.some.inj H
        cases hr
    · rw [if_neg c15] at H
      have c15b0 : (t281 == t282) = false := by simpa using c15
      (try (have c15b1 : decide (t281 = t282) = false := by simpa using c15))
      (try (have c15b2 : (t281 == t282) = false := by simpa using c15))
      (try (have c15b3 : ¬ (t281 = t282) := by simpa using c15))
      clear c15
      obtain rfl := Option.some.inj H
      cases hr
  · replace c5 := Bool.eq_false_iff.mpr c5
    subst c5
    have H1 : ((camshaftlaw14_known.f k).bind fun t259 => (some t259)) = some r := by rw [if_neg (show ¬ (false = true) by decide)] at H; exact H
    clear H
    have H := H1
    clear H1
    replace H := Option.bind_eq_some_iff.mp H
    obtain ⟨t259, A1240, H⟩ := H
    replace H : (some t259) = some r := H
    have A124 := Aside0.mk A1240
    clear A1240
    obtain rfl := Option.some.inj H
    go_enter Try.func3, Try.ntmps3
    go_wp2_with (first | ((with_reducible refine gate_callee (f := 9) rfl ?_); refine goesL_ (some 23) rfl rfl Try.func9 (by kernel_rfl) rfl #[.slice A0 l0.length c0] rfl (by (try simp only [List.map_toArray, List.map_cons, List.map_nil]); first | done | rfl | (simp only [List.length_drop, List.length_take]; rfl)) ?_; (with_reducible refine (camshaftlaw14_light.calls k _ _ l0 false _ ?side1 ?side2 A4.out).mono ?_); (case side1 => repeat (first | exact HR0.out | (with_reducible refine Kd.C_alloc ?_ _) | (with_reducible refine Kd.C_drewN ?_ _) | (with_reducible refine Kd.C_drew ?_))); (case side2 => exact HC0.out); rintro e w' ⟨rfl, ⟨nd, rfl⟩⟩; refine ⟨_, rfl, ?_⟩) | ((with_reducible refine gate_callee (f := 10) rfl ?_); refine goesL_ (some 25) rfl rfl Try.func10 (by kernel_rfl) rfl #[] rfl (by (try simp only [List.map_toArray, List.map_cons, List.map_nil]); first | done | rfl | (simp only [List.length_drop, List.length_take]; rfl)) ?_; (with_reducible refine (camshaftlaw14_known.calls k  t259 _ A124.out).mono ?_); rintro e w125 ⟨rfl, hb⟩; refine ⟨_, rfl, ?_⟩; have n0_ := Aside0.mk (below_step (by repeat (first | (with_reducible first | exact HB.out | apply below_alloc | apply pw_below_drewN | apply below_drew1) | exact HB.out)) hb); clear HB; have HB := n0_; clear n0_ hb))
    go_ret
    exact ⟨by first | rfl | (simp [errW_none, errW_some] <;> rfl) | (simp [*, errW_none, errW_some] <;> rfl), by repeat (first | (with_reducible first | exact HB.out | apply below_alloc | apply pw_below_drewN | apply below_drew1) | exact HB.out)⟩

end Go.Proofs.Ytpjobjgfigplhaa.Print
