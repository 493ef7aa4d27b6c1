/- WRITTEN BY A PROGRAM OF THE SESSION out of the translation: functions in plain Lean, and that the calls come to just these answers; Lean checks every line. -/
import Derived.Test.YtbbfcfpbdgibaaaPrint0
namespace Go.Proofs.Ytbbfcfpbdgibaaa.Print
open Go.RowKit Go.Proofs.YtbbfcfpbdgibaaaW.PrintWords Go.Proofs.YtbbfcfpbdgibaaaW.PrintLast Go.Proofs.YtbbfcfpbdgibaaaW.PrintMore
attribute [local go_sem] max2_int min2_int max_two min_two max_three min_three max_four min_four   -- for this text's walks alone
set_option linter.unusedVariables false
set_option linter.unusedSimpArgs false

/-! ### camshaftref01_Name: function 18 -/
def camshaftref01_Name.f (a0 : Int) : Option (ByteArray) := if a0 < 1 then (some (⟨#[]⟩ : ByteArray)) else (if a0 > 12 then (some (⟨#[]⟩ : ByteArray)) else ((some (([(⟨#[65, 68, 68]⟩ : ByteArray), (⟨#[83, 85, 66]⟩ : ByteArray), (⟨#[77, 85, 76]⟩ : ByteArray), (⟨#[68, 73, 86]⟩ : ByteArray), (⟨#[77, 79, 68]⟩ : ByteArray), (⟨#[65, 78, 68]⟩ : ByteArray), (⟨#[79, 82]⟩ : ByteArray), (⟨#[88, 79, 82]⟩ : ByteArray), (⟨#[83, 72, 76]⟩ : ByteArray), (⟨#[83, 72, 82]⟩ : ByteArray), (⟨#[76, 84]⟩ : ByteArray), (⟨#[69, 81]⟩ : ByteArray)] : List ByteArray) : List ByteArray)).bind fun y109 => (if 0 ≤ (wrap64 (a0 - 1)) then (if (wrap64 (a0 - 1)) < (y109.length : Int) then (some (rdOf ByteArray.empty y109 (wrap64 (a0 - 1)))) else (none)) else (none))))
set_option maxHeartbeats 8000000 in
set_option maxRecDepth 100000 in
theorem camshaftref01_Name.calls (a0 : Int) (r : ByteArray) (w : World) (h : camshaftref01_Name.f a0 = some r) :
    Calls Try.prog 18 #[.int .i64 a0] w fun e w' => e = .returned (.string r) ∧ Below w.heap.size w w' := by
  have HB := Aside0.mk (Below.refl w.heap.size w)
  have H : (if a0 < 1 then (some (⟨#[]⟩ : ByteArray)) else (if a0 > 12 then (some (⟨#[]⟩ : ByteArray)) else ((some (([(⟨#[65, 68, 68]⟩ : ByteArray), (⟨#[83, 85, 66]⟩ : ByteArray), (⟨#[77, 85, 76]⟩ : ByteArray), (⟨#[68, 73, 86]⟩ : ByteArray), (⟨#[77, 79, 68]⟩ : ByteArray), (⟨#[65, 78, 68]⟩ : ByteArray), (⟨#[79, 82]⟩ : ByteArray), (⟨#[88, 79, 82]⟩ : ByteArray), (⟨#[83, 72, 76]⟩ : ByteArray), (⟨#[83, 72, 82]⟩ : ByteArray), (⟨#[76, 84]⟩ : ByteArray), (⟨#[69, 81]⟩ : ByteArray)] : List ByteArray) : List ByteArray)).bind fun y109 => (if 0 ≤ (wrap64 (a0 - 1)) then (if (wrap64 (a0 - 1)) < (y109.length : Int) then (some (rdOf ByteArray.empty y109 (wrap64 (a0 - 1)))) else (none)) else (none))))) = some r := h
  clear h
  by_cases c2 : a0 < 1
  · rw [if_pos c2] at H
    have c2b0 : decide (a0 < 1) = true := decide_eq_true c2
    clear c2
    obtain rfl := Option.some.inj H
    go_enter Try.func18, Try.ntmps18
    go_wp2
    go_ret
    exact ⟨by first | rfl | (simp [errW_none, errW_some] <;> rfl) | (simp [*, errW_none, errW_some] <;> rfl), by repeat (first | (with_reducible first | exact HB.out | apply below_alloc | apply pw_below_drewN | apply below_drew1) | exact HB.out)⟩
  · rw [if_neg c2] at H
    have c2b0 : decide (a0 < 1) = false := decide_eq_false c2
    clear c2
    by_cases c3 : a0 > 12
    · rw [if_pos c3] at H
      have c3b0 : decide (12 < a0) = true := decide_eq_true c3
      clear c3
      obtain rfl := Option.some.inj H
      go_enter Try.func18, Try.ntmps18
      go_wp2
      go_ret
      exact ⟨by first | rfl | (simp [errW_none, errW_some] <;> rfl) | (simp [*, errW_none, errW_some] <;> rfl), by repeat (first | (with_reducible first | exact HB.out | apply below_alloc | apply pw_below_drewN | apply below_drew1) | exact HB.out)⟩
    · rw [if_neg c3] at H
      have c3b0 : decide (12 < a0) = false := decide_eq_false c3
      clear c3
      obtain ⟨y109, hy109⟩ : ∃ y_ : List ByteArray, y_ = (([(⟨#[65, 68, 68]⟩ : ByteArray), (⟨#[83, 85, 66]⟩ : ByteArray), (⟨#[77, 85, 76]⟩ : ByteArray), (⟨#[68, 73, 86]⟩ : ByteArray), (⟨#[77, 79, 68]⟩ : ByteArray), (⟨#[65, 78, 68]⟩ : ByteArray), (⟨#[79, 82]⟩ : ByteArray), (⟨#[88, 79, 82]⟩ : ByteArray), (⟨#[83, 72, 76]⟩ : ByteArray), (⟨#[83, 72, 82]⟩ : ByteArray), (⟨#[76, 84]⟩ : ByteArray), (⟨#[69, 81]⟩ : ByteArray)] : List ByteArray)) := ⟨_, rfl⟩
      replace H : (if 0 ≤ (wrap64 (a0 - 1)) then (if (wrap64 (a0 - 1)) < (y109.length : Int) then (some (rdOf ByteArray.empty y109 (wrap64 (a0 - 1)))) else (none)) else (none)) = some r := by first | (rw [hy109]; with_reducible exact H) | (have H2_ := (Option.bind_some _ _).symm.trans H; rw [hy109]; with_reducible exact H2_) | (have H2_ := (Option.bind_some _ _).symm.trans H; with_reducible exact H2_) | with_reducible exact H | (rw [hy109]; exact H) | exact H
      have Ny109 := Aside0.mk hy109
      clear hy109
      obtain ⟨ji4, hji4⟩ : ∃ j_ : Int, (wrap64 (a0 - 1)) = j_ := ⟨_, rfl⟩
      replace H : (if 0 ≤ (ji4) then (if (ji4) < (y109.length : Int) then (some (rdOf ByteArray.empty y109 (ji4))) else (none)) else (none)) = some r := by first | (rw [hji4] at H; exact H) | (simp only [hji4] at H ⊢; exact H)
      have hji4w : (IntKind.i64.wrap (a0 - 1)) = ji4 := (i64_w _).trans hji4
      by_cases c5 : 0 ≤ (ji4)
      · rw [if_pos c5] at H
        have c5b0 : decide (0 ≤ (ji4)) = true := decide_eq_true c5
        clear c5
        by_cases c6 : (ji4) < (y109.length : Int)
        · rw [if_pos c6] at H
          have c6b0 : decide ((ji4) < (y109.length : Int)) = true := decide_eq_true c6
          clear c6
          obtain rfl := Option.some.inj H
          go_enter Try.func18, Try.ntmps18
          go_wp2_with (first | ((with_reducible refine gate_dst (N := 9) rfl ?_); refine Kd.R_lit Kd.string _ 9 ?hg (N := 9) ?hd (xs := ([(⟨#[65, 68, 68]⟩ : ByteArray), (⟨#[83, 85, 66]⟩ : ByteArray), (⟨#[77, 85, 76]⟩ : ByteArray), (⟨#[68, 73, 86]⟩ : ByteArray), (⟨#[77, 79, 68]⟩ : ByteArray), (⟨#[65, 78, 68]⟩ : ByteArray), (⟨#[79, 82]⟩ : ByteArray), (⟨#[88, 79, 82]⟩ : ByteArray), (⟨#[83, 72, 76]⟩ : ByteArray), (⟨#[83, 72, 82]⟩ : ByteArray), (⟨#[76, 84]⟩ : ByteArray), (⟨#[69, 81]⟩ : ByteArray)] : List ByteArray)) (inner := [.string (⟨#[65, 68, 68]⟩ : ByteArray), .string (⟨#[83, 85, 66]⟩ : ByteArray), .string (⟨#[77, 85, 76]⟩ : ByteArray), .string (⟨#[68, 73, 86]⟩ : ByteArray), .string (⟨#[77, 79, 68]⟩ : ByteArray), .string (⟨#[65, 78, 68]⟩ : ByteArray), .string (⟨#[79, 82]⟩ : ByteArray), .string (⟨#[88, 79, 82]⟩ : ByteArray), .string (⟨#[83, 72, 76]⟩ : ByteArray), .string (⟨#[83, 72, 82]⟩ : ByteArray), .string (⟨#[76, 84]⟩ : ByteArray), .string (⟨#[69, 81]⟩ : ByteArray)]) (ok := fun _ => True) (okp := fun _ => True) ?hr ?hp (fun _ hk => hk) trivial (Below.refl _ _) (Nat.le_refl _) (by simp) ?_; (case hd => rfl); (case hg => rfl); (case hr => first | (go_simp; done) | (go_simp; rfl)); (case hp => exact (Reps.one (show Kd.M Kd.string _ _ _ (⟨#[65, 68, 68]⟩ : ByteArray) [.string (⟨#[65, 68, 68]⟩ : ByteArray)] from rfl) (Reps.one (show Kd.M Kd.string _ _ _ (⟨#[83, 85, 66]⟩ : ByteArray) [.string (⟨#[83, 85, 66]⟩ : ByteArray)] from rfl) (Reps.one (show Kd.M Kd.string _ _ _ (⟨#[77, 85, 76]⟩ : ByteArray) [.string (⟨#[77, 85, 76]⟩ : ByteArray)] from rfl) (Reps.one (show Kd.M Kd.string _ _ _ (⟨#[68, 73, 86]⟩ : ByteArray) [.string (⟨#[68, 73, 86]⟩ : ByteArray)] from rfl) (Reps.one (show Kd.M Kd.string _ _ _ (⟨#[77, 79, 68]⟩ : ByteArray) [.string (⟨#[77, 79, 68]⟩ : ByteArray)] from rfl) (Reps.one (show Kd.M Kd.string _ _ _ (⟨#[65, 78, 68]⟩ : ByteArray) [.string (⟨#[65, 78, 68]⟩ : ByteArray)] from rfl) (Reps.one (show Kd.M Kd.string _ _ _ (⟨#[79, 82]⟩ : ByteArray) [.string (⟨#[79, 82]⟩ : ByteArray)] from rfl) (Reps.one (show Kd.M Kd.string _ _ _ (⟨#[88, 79, 82]⟩ : ByteArray) [.string (⟨#[88, 79, 82]⟩ : ByteArray)] from rfl) (Reps.one (show Kd.M Kd.string _ _ _ (⟨#[83, 72, 76]⟩ : ByteArray) [.string (⟨#[83, 72, 76]⟩ : ByteArray)] from rfl) (Reps.one (show Kd.M Kd.string _ _ _ (⟨#[83, 72, 82]⟩ : ByteArray) [.string (⟨#[83, 72, 82]⟩ : ByteArray)] from rfl) (Reps.one (show Kd.M Kd.string _ _ _ (⟨#[76, 84]⟩ : ByteArray) [.string (⟨#[76, 84]⟩ : ByteArray)] from rfl) (Reps.one (show Kd.M Kd.string _ _ _ (⟨#[69, 81]⟩ : ByteArray) [.string (⟨#[69, 81]⟩ : ByteArray)] from rfl) (Reps.none _ _)))))))))))))); intro v110 w7 ho8 hb hg_ hnew_; clear hg_ hnew_; (first | rw [← Ny109.out] at ho8 | (simp only [Int.reduceToNat] at ho8; rw [← Ny109.out] at ho8)); have n0_ := Aside0.mk (Kd.R_lower ho8 (below_size (by repeat (first | (with_reducible first | exact HB.out | apply below_alloc | apply pw_below_drewN | apply below_drew1) | exact HB.out)))); have n1_ := Aside0.mk (below_step (by repeat (first | (with_reducible first | exact HB.out | apply below_alloc | apply pw_below_drewN | apply below_drew1) | exact HB.out)) hb); clear HB; have HO111 := n0_; have HB := n1_; clear n0_ n1_; clear hb ho8; obtain ⟨Ao9, co9, eo9⟩ := Kd.R_slice HO111.out; subst eo9; have p112 : 0 ≤ ((ji4) : Int) := of_decide_eq_true (by first | (with_reducible assumption) | assumption); have q112 : (ji4) < (y109.length : Int) := of_decide_eq_true (by first | (with_reducible assumption) | assumption); obtain ⟨ad112, e112, hx112_0⟩ := Kd.at_string (Kd.R_reads' HO111.out).2.2 (ji4) p112 q112; cases e112; replace p112 := eq_true p112; replace q112 := eq_true q112))
          go_ret
          exact ⟨by first | rfl | (simp [errW_none, errW_some] <;> rfl) | (simp only [← hji4]; first | rfl | (simp [errW_none, errW_some] <;> rfl)) | (simp [*, errW_none, errW_some] <;> rfl), by repeat (first | (with_reducible first | exact HB.out | apply below_alloc | apply pw_below_drewN | apply below_drew1) | exact HB.out)⟩
        · rw [if_neg c6] at H
          exact absurd H (by simp)
      · rw [if_neg c5] at H
        exact absurd H (by simp)

end Go.Proofs.Ytbbfcfpbdgibaaa.Print
