/- PLAIN: numbers of 64 bits: sums, products, bits and shifts, as whole numbers: no Go and no memory. -/
import Derived.Laws.BitsLemmas
import Derived.RowKit
namespace Go.Proofs.Ytbbfcfpbdgibaaa.NumLaws
open Go.RowKit
def In (a : Int) : Prop := -9223372036854775808 ≤ a ∧ a ≤ 9223372036854775807
theorem wrap_in {a : Int} (h : In a) : wrap64 a = a := by unfold wrap64; unfold In at h; omega
theorem in_wrap (a : Int) : In (wrap64 a) := by unfold In wrap64; omega
theorem wrap_sub_mul (z t : Int) : wrap64 (z - 18446744073709551616 * t) = wrap64 z := by unfold wrap64; omega
theorem wrap_form (x : Int) : ∃ q, wrap64 x = x - 18446744073709551616 * q := ⟨(x + 9223372036854775808) / 18446744073709551616, by unfold wrap64; omega⟩
theorem wrap_mul_l (x y : Int) : wrap64 (wrap64 x * y) = wrap64 (x * y) := by
  obtain ⟨q, h⟩ := wrap_form x
  rw [h, Int.sub_mul, Int.mul_assoc, wrap_sub_mul]
theorem wrap_mul_r (x y : Int) : wrap64 (y * wrap64 x) = wrap64 (y * x) := by rw [Int.mul_comm, wrap_mul_l, Int.mul_comm]
theorem wrap_add_l (x y : Int) : wrap64 (wrap64 x + y) = wrap64 (x + y) := by unfold wrap64; omega
theorem wrap_add_r (x y : Int) : wrap64 (x + wrap64 y) = wrap64 (x + y) := by unfold wrap64; omega
theorem wrap_sub_l (x y : Int) : wrap64 (wrap64 x - y) = wrap64 (x - y) := by unfold wrap64; omega
theorem wrap_sub_r (x y : Int) : wrap64 (x - wrap64 y) = wrap64 (x - y) := by unfold wrap64; omega
/-- a number as 64 bits -/
theorem wrap_toNat (v : BitVec 64) : IntKind.i64.wrap (v.toNat : Int) = v.toInt := by
  rw [IntKind.wrap_i64, BitVec.toInt_eq_toNat_cond]
  have := v.isLt
  split <;> omega
theorem bits_and (x y : Int) : bits .and .i64 x y = (BitVec.ofInt 64 x &&& BitVec.ofInt 64 y).toInt := wrap_toNat _
theorem bits_or (x y : Int) : bits .or .i64 x y = (BitVec.ofInt 64 x ||| BitVec.ofInt 64 y).toInt := wrap_toNat _
theorem bits_xor (x y : Int) : bits .xor .i64 x y = (BitVec.ofInt 64 x ^^^ BitVec.ofInt 64 y).toInt := wrap_toNat _
theorem in_toInt (v : BitVec 64) : In v.toInt := by
  have h := v.isLt
  unfold In
  rw [BitVec.toInt_eq_toNat_cond]
  split <;> omega
theorem toInt_ofInt {a : Int} (h : In a) : (BitVec.ofInt 64 a).toInt = a := by
  unfold In at h
  rw [BitVec.toInt_ofInt]
  unfold Int.bmod
  simp only [show ((2 ^ 64 : Nat) : Int) = 18446744073709551616 from rfl]
  split <;> omega
theorem toInt_sub (u v : BitVec 64) : (u - v).toInt = wrap64 (u.toInt - v.toInt) := by
  rw [BitVec.toInt_sub]
  unfold Int.bmod wrap64
  simp only [show ((2 ^ 64 : Nat) : Int) = 18446744073709551616 from rfl]
  split <;> omega
theorem toInt_add (u v : BitVec 64) : (u + v).toInt = wrap64 (u.toInt + v.toInt) := by
  rw [BitVec.toInt_add]
  unfold Int.bmod wrap64
  simp only [show ((2 ^ 64 : Nat) : Int) = 18446744073709551616 from rfl]
  split <;> omega
theorem or_parts (u v : BitVec 64) : u ||| v = (u &&& v) + (u ^^^ v) := by
  rw [BitVec.add_eq_or_of_and_eq_zero]
  · ext i
    simp
    cases u[i] <;> cases v[i] <;> rfl
  · ext i
    simp
    cases u[i] <;> cases v[i] <;> simp
theorem nat_and_or (n : Nat) : ∀ a b : Nat, a < 2 ^ n → b < 2 ^ n → (a &&& b) + (a ||| b) = a + b := by
  induction n with
  | zero =>
    intro a b ha hb
    have h1 : a = 0 := by simpa using ha
    have h2 : b = 0 := by simpa using hb
    subst h1 h2
    rfl
  | succ n ih =>
    intro a b ha hb
    have h := ih (a / 2) (b / 2) (by omega) (by omega)
    rw [← Nat.and_div_two, ← Nat.or_div_two] at h
    have h1 := @Nat.and_mod_two_eq_one a b
    have h2 := @Nat.or_mod_two_eq_one a b
    omega
theorem and_or_add (u v : BitVec 64) : (u &&& v) + (u ||| v) = u + v := by
  apply BitVec.eq_of_toNat_eq
  rw [BitVec.toNat_add, BitVec.toNat_add, BitVec.toNat_and, BitVec.toNat_or, nat_and_or 64 _ _ u.isLt v.isLt]
theorem pow_pos' (k : Nat) : (0 : Int) < 2 ^ k := Int.pow_pos (by omega)
theorem div_div (a : Int) (j k : Nat) : a / 2 ^ j / 2 ^ k = a / 2 ^ (j + k) := by
  rw [Int.ediv_ediv_of_nonneg (Int.le_of_lt (pow_pos' j)), Int.pow_add]
theorem div_neg_iff (a : Int) (k : Nat) : a / 2 ^ k < 0 ↔ a < 0 := by
  have hp := pow_pos' k
  constructor
  · intro h
    apply Int.not_le.1
    intro h0
    have := Int.ediv_nonneg h0 (Int.le_of_lt hp)
    omega
  · intro h
    exact Int.ediv_neg_of_neg_of_pos h hp
theorem in_shift (a : Int) (k : Nat) (ha : -1073741824 < a ∧ a < 1073741824) (hk : k < 32) : In (a * 2 ^ k) := by
  have hp := pow_pos' k
  have hle : (2 : Int) ^ k ≤ 2147483648 := by
    have h : 2 ^ k ≤ 2 ^ 31 := Nat.pow_le_pow_right (by omega) (by omega)
    have e : (2 : Int) ^ k = ((2 ^ k : Nat) : Int) := (Int.natCast_pow 2 k).symm
    rw [e]
    exact Int.ofNat_le.2 h
  generalize (2 : Int) ^ k = p at *
  have h1 : a * p ≤ 1073741824 * p := Int.mul_le_mul_of_nonneg_right (by omega) (by omega)
  have h2 : -1073741824 * p ≤ a * p := Int.mul_le_mul_of_nonneg_right (by omega) (by omega)
  unfold In
  omega
end Go.Proofs.Ytbbfcfpbdgibaaa.NumLaws
