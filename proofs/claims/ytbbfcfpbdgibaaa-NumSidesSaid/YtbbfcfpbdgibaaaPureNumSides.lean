/- The plain statement of NumSides: Add, Mul, And, Or, Xor and Eq go both ways; of two numbers that are not the same just one is below the other; And and Or together are both. -/
import Derived.Test.YtbbfcfpbdgibaaaPrint13
import Derived.Test.YtbbfcfpbdgibaaaNumPure
namespace Go.Proofs.Ytbbfcfpbdgibaaa.Pure
open Go.RowKit Go.Proofs.Ytbbfcfpbdgibaaa.Print Go.Proofs.YtbbfcfpbdgibaaaW.PrintWords Go.Proofs.YtbbfcfpbdgibaaaW.PrintLast
open NumLaws Num
theorem NumSides : camshaftlaw01_NumSides.Pure := by
  intro a b ha hb
  have ha' := in_of ha
  have hb' := in_of hb
  refine ⟨7, ?_⟩
  have w : ∀ n : Nat, n < 100 → wrap64 ((n : Int) + 1) = ((n + 1 : Nat) : Int) := fun n h => by rw [wrap_in (by unfold In; omega)]; omega
  have s1 : wrap64 (a + b) = wrap64 (b + a) := by rw [Int.add_comm]
  have s3 : wrap64 (a * b) = wrap64 (b * a) := by rw [Int.mul_comm]
  have s6 : bits .and .i64 a b = bits .and .i64 b a := by rw [bits_and, bits_and, BitVec.and_comm]
  have s7 : bits .or .i64 a b = bits .or .i64 b a := by rw [bits_or, bits_or, BitVec.or_comm]
  have s8 : bits .xor .i64 a b = bits .xor .i64 b a := by rw [bits_xor, bits_xor, BitVec.xor_comm]
  have s12 : b2i (a == b) = b2i (b == a) := by rw [Bool.beq_comm]
  have last : wrap64 (wrap64 (b2i (decide (a < b)) + b2i (decide (b < a))) + b2i (a == b)) = 1 := by
    rcases Int.lt_trichotomy a b with h | h | h
    · rw [decide_eq_true h, decide_eq_false (by omega), beq_eq_false_iff_ne.2 (by omega)]; decide +kernel
    · subst h; rw [decide_eq_false (by omega), beq_self_eq_true]; decide +kernel
    · rw [decide_eq_false (by omega), decide_eq_true h, beq_eq_false_iff_ne.2 (by omega)]; decide +kernel
  have both : wrap64 (bits .and .i64 a b + bits .or .i64 a b) = wrap64 (a + b) := by
    rw [bits_and, bits_or, ← toInt_add, and_or_add, toInt_add, toInt_ofInt ha', toInt_ofInt hb']
  unfold camshaftlaw01_NumSides.f
  have step : ∀ (k i : Nat) (o : Int) (r : Int), i < 6 → rd [1, 3, 6, 7, 8, 12] (i : Int) = o → num_Two.f o a b = some (r, false) → num_Two.f o b a = some (r, false) →
      camshaftlaw01_NumSides.l0 (k + 1) a b [1, 3, 6, 7, 8, 12] (i : Int) = camshaftlaw01_NumSides.l0 k a b [1, 3, 6, 7, 8, 12] ((i + 1 : Nat) : Int) := by
    intro k i o r hi ho h1 h2
    simp only [camshaftlaw01_NumSides.l0]
    rw [if_pos (by simp; omega), if_pos (by omega), ho, h1, h2]
    simp only [Option.bind_some, Bool.false_eq_true, if_false, if_true]
    rw [w i (by omega)]
  rw [show (0 : Int) = ((0 : Nat) : Int) from rfl, step 6 0 1 _ (by omega) rfl (t1 a b) (by rw [t1, s1]), step 5 1 3 _ (by omega) rfl (t3 a b) (by rw [t3, s3]), step 4 2 6 _ (by omega) rfl (t6 a b) (by rw [t6, s6]),
    step 3 3 7 _ (by omega) rfl (t7 a b) (by rw [t7, s7]), step 2 4 8 _ (by omega) rfl (t8 a b) (by rw [t8, s8]), step 1 5 12 _ (by omega) rfl (t12 a b) (by rw [t12, s12])]
  simp only [camshaftlaw01_NumSides.l0]
  rw [if_neg (by simp)]
  simp only [t11, t12, t6, t7, t1, Option.bind_some, last, both, if_true, known_true]

end Go.Proofs.Ytbbfcfpbdgibaaa.Pure
