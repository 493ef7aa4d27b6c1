/- PLAIN: the sum of bytes as a function on natural numbers, by bits and by half bytes, and what it keeps: no Go and no memory. -/
import Derived.Laws.BitsLemmas
namespace Go.Proofs.Ytdmgndiglpcpfaa.CrcPlain
/-- one doubling -/
def dbl (n : Nat) : Nat := (2 * n % 65536) ^^^ (if 32768 ≤ n then 4129 else 0)
def f4 (n : Nat) : Nat := dbl (dbl (dbl (dbl n)))
def f8 (n : Nat) : Nat := f4 (f4 n)
def tab : List Nat := (List.range 16).map fun i => f4 (i * 4096)

theorem xor_zero_eq {x y : Nat} (h : x ^^^ y = 0) : x = y := by
  have : x = x ^^^ y ^^^ y := by rw [Nat.xor_assoc, Nat.xor_self, Nat.xor_zero]
  rw [this, h, Nat.zero_xor]
theorem dbl_lt {n : Nat} : dbl n < 65536 := by
  unfold dbl
  apply Nat.xor_lt_two_pow (n := 16)
  · omega
  · split <;> omega
theorem f4_lt {n : Nat} : f4 n < 65536 := dbl_lt
theorem f8_lt {n : Nat} : f8 n < 65536 := f4_lt

theorem ge_iff {n : Nat} (h : n < 65536) : 32768 ≤ n ↔ n.testBit 15 = true := by
  rw [Nat.testBit_eq_decide_div_mod_eq]
  simp
  omega

theorem two_mul_xor (x y : Nat) : 2 * (x ^^^ y) % 65536 = (2 * x % 65536) ^^^ (2 * y % 65536) := by
  have h : ∀ z, 2 * z = z <<< 1 := fun z => by rw [Nat.shiftLeft_eq]; omega
  rw [h, h, h, Nat.shiftLeft_xor_distrib, show (65536 : Nat) = 2 ^ 16 from rfl, Nat.xor_mod_two_pow]

theorem dbl_xor {x y : Nat} (hx : x < 65536) (hy : y < 65536) : dbl (x ^^^ y) = dbl x ^^^ dbl y := by
  have hxy : x ^^^ y < 65536 := Nat.xor_lt_two_pow (n := 16) hx hy
  unfold dbl
  rw [two_mul_xor]
  have e : (if 32768 ≤ x ^^^ y then 4129 else 0) = (if 32768 ≤ x then 4129 else 0) ^^^ (if 32768 ≤ y then 4129 else 0) := by
    simp only [ge_iff hx, ge_iff hy, ge_iff hxy, Nat.testBit_xor]
    cases x.testBit 15 <;> cases y.testBit 15 <;> simp
  rw [e]
  ac_rfl
theorem f4_xor {x y : Nat} (hx : x < 65536) (hy : y < 65536) : f4 (x ^^^ y) = f4 x ^^^ f4 y := by
  unfold f4
  rw [dbl_xor hx hy, dbl_xor dbl_lt dbl_lt, dbl_xor dbl_lt dbl_lt, dbl_xor dbl_lt dbl_lt]
theorem f8_xor {x y : Nat} (hx : x < 65536) (hy : y < 65536) : f8 (x ^^^ y) = f8 x ^^^ f8 y := by
  unfold f8
  rw [f4_xor hx hy, f4_xor f4_lt f4_lt]
theorem dbl_zero {x : Nat} (hx : x < 65536) (h : dbl x = 0) : x = 0 := by
  unfold dbl at h
  by_cases hc : 32768 ≤ x
  · rw [if_pos hc] at h
    have h2 : ((2 * x % 65536) ^^^ 4129).testBit 0 = false := by rw [h]; simp
    rw [Nat.testBit_xor] at h2
    simp at h2
  · rw [if_neg hc] at h
    simp at h
    omega
theorem f4_zero {x : Nat} (hx : x < 65536) (h : f4 x = 0) : x = 0 :=
  dbl_zero hx (dbl_zero dbl_lt (dbl_zero dbl_lt (dbl_zero dbl_lt h)))
theorem f8_zero {x : Nat} (hx : x < 65536) (h : f8 x = 0) : x = 0 := f4_zero hx (f4_zero f4_lt h)
theorem f8_at_zero : f8 0 = 0 := by decide
theorem f8_low {b : Nat} (h : b < 256) : f8 b = 256 * b := by
  have : ∀ b : Fin 256, f8 b.val = 256 * b.val := by decide +kernel
  exact this ⟨b, h⟩

/-- half a byte by the table -/
def nib (n : Nat) : Nat := (16 * n % 65536) ^^^ tab.getD (n / 4096) 0
theorem xor_add (k a : Nat) {b : Nat} (h : b < 2 ^ k) : 2 ^ k * a ^^^ b = 2 ^ k * a + b := by
  apply Nat.eq_of_testBit_eq
  intro j
  rw [Nat.testBit_two_pow_mul_add a h j, Nat.testBit_xor, Nat.testBit_two_pow_mul]
  by_cases hj : j < k
  · simp [hj, Nat.not_le.2 hj]
  · have : b.testBit j = false := Nat.testBit_lt_two_pow (Nat.lt_of_lt_of_le h (Nat.pow_le_pow_right (by omega) (by omega)))
    simp [hj, this, Nat.le_of_not_lt hj]
theorem xor_split {n : Nat} : (4096 * (n / 4096)) ^^^ (n % 4096) = n := by
  have := xor_add 12 (n / 4096) (b := n % 4096) (Nat.mod_lt _ (by omega))
  simp only [show (2 : Nat) ^ 12 = 4096 from rfl] at this
  omega
theorem f4_low {n : Nat} (h : n < 4096) : f4 n = 16 * n := by
  have h1 : dbl n = 2 * n := by unfold dbl; rw [if_neg (by omega)]; simp; omega
  have h2 : dbl (2 * n) = 4 * n := by unfold dbl; rw [if_neg (by omega)]; simp; omega
  have h3 : dbl (4 * n) = 8 * n := by unfold dbl; rw [if_neg (by omega)]; simp; omega
  have h4 : dbl (8 * n) = 16 * n := by unfold dbl; rw [if_neg (by omega)]; simp; omega
  unfold f4; rw [h1, h2, h3, h4]
theorem nib_eq {n : Nat} (h : n < 65536) : nib n = f4 n := by
  have e : f4 n = f4 (4096 * (n / 4096)) ^^^ f4 (n % 4096) := by
    rw [← f4_xor (by omega) (by omega), xor_split]
  rw [e, f4_low (n := n % 4096) (by omega)]
  unfold nib
  have e2 : 16 * n % 65536 = 16 * (n % 4096) := by omega
  have ht : ∀ i : Fin 16, tab.getD i.val 0 = f4 (4096 * i.val) := by decide +kernel
  rw [e2, ht ⟨n / 4096, by omega⟩, Nat.xor_comm]

/-- a byte laid over, and eight doublings -/
def stp (n c : Nat) : Nat := f8 (n ^^^ (256 * c))
def on (n : Nat) (l : List Nat) : Nat := l.foldl stp n

theorem stp_lt {n c : Nat} : stp n c < 65536 := f8_lt
theorem on_nil (n : Nat) : on n [] = n := rfl
theorem on_cons (n c : Nat) (l : List Nat) : on n (c :: l) = on (stp n c) l := rfl
theorem on_append (n : Nat) (l m : List Nat) : on n (l ++ m) = on (on n l) m := by simp [on]
theorem on_lt {n : Nat} (h : n < 65536) (l : List Nat) : on n l < 65536 := by
  induction l generalizing n with
  | nil => exact h
  | cons c l ih => exact ih stp_lt
theorem mul_xor (a b : Nat) : 256 * (a ^^^ b) = 256 * a ^^^ 256 * b := by
  have h : ∀ z, 256 * z = z <<< 8 := fun z => by rw [Nat.shiftLeft_eq]; omega
  rw [h, h, h, Nat.shiftLeft_xor_distrib]
theorem lay_lt {n c : Nat} (h : n < 65536) (hc : c < 256) : n ^^^ (256 * c) < 65536 := Nat.xor_lt_two_pow (n := 16) h (by omega)
theorem stp_xor {x y a b : Nat} (hx : x < 65536) (hy : y < 65536) (ha : a < 256) (hb : b < 256) : stp (x ^^^ y) (a ^^^ b) = stp x a ^^^ stp y b := by
  unfold stp
  rw [← f8_xor (lay_lt hx ha) (lay_lt hy hb), mul_xor]
  congr 1
  ac_rfl
theorem on_xor {x y : Nat} (hx : x < 65536) (hy : y < 65536) : ∀ (l m : List Nat), l.length = m.length → (∀ a ∈ l, a < 256) → (∀ a ∈ m, a < 256) →
    on (x ^^^ y) (List.zipWith (· ^^^ ·) l m) = on x l ^^^ on y m := by
  intro l
  induction l generalizing x y with
  | nil => intro m hl _ _; cases m with
    | nil => rfl
    | cons b m => simp at hl
  | cons a l ih =>
    intro m hl h1 h2
    cases m with
    | nil => simp at hl
    | cons b m =>
      simp only [List.zipWith_cons_cons, on_cons]
      rw [stp_xor hx hy (h1 a (by simp)) (h2 b (by simp))]
      exact ih stp_lt stp_lt m (by simpa using hl) (fun z hz => h1 z (by simp [hz])) (fun z hz => h2 z (by simp [hz]))
/-- two bytes -/
theorem on_two {n a b : Nat} (hn : n < 65536) (ha : a < 256) (hb : b < 256) : on n [a, b] = f8 (f8 (n ^^^ (256 * a + b))) := by
  show f8 (f8 (n ^^^ 256 * a) ^^^ 256 * b) = _
  have e : 256 * a + b = 256 * a ^^^ b := (xor_add 8 a hb).symm
  rw [e, ← Nat.xor_assoc, f8_xor (lay_lt hn ha) (by omega), f8_low hb]
theorem on_two_zero {n a b : Nat} (hn : n < 65536) (ha : a < 256) (hb : b < 256) : on n [a, b] = 0 ↔ n = 256 * a + b := by
  rw [on_two hn ha hb]
  constructor
  · intro h
    have := f8_zero (Nat.xor_lt_two_pow (n := 16) hn (by omega)) (f8_zero f8_lt h)
    exact xor_zero_eq this
  · intro h
    rw [h, Nat.xor_self]; rfl
theorem on_two_inj {n a b c d : Nat} (hn : n < 65536) (ha : a < 256) (hb : b < 256) (hc : c < 256) (hd : d < 256) : on n [a, b] = on n [c, d] ↔ a = c ∧ b = d := by
  have key : on n [a, b] = on n [c, d] ↔ 256 * a + b = 256 * c + d := by
    rw [on_two hn ha hb, on_two hn hc hd]
    constructor
    · intro h
      have h0 : f8 (f8 ((n ^^^ (256 * a + b)) ^^^ (n ^^^ (256 * c + d)))) = 0 := by
        rw [f8_xor (Nat.xor_lt_two_pow (n := 16) hn (by omega)) (Nat.xor_lt_two_pow (n := 16) hn (by omega)), f8_xor f8_lt f8_lt, h, Nat.xor_self]
      have h1 := f8_zero (Nat.xor_lt_two_pow (n := 16) (Nat.xor_lt_two_pow (n := 16) hn (by omega)) (Nat.xor_lt_two_pow (n := 16) hn (by omega))) (f8_zero f8_lt h0)
      have h2 : (n ^^^ (256 * a + b)) ^^^ (n ^^^ (256 * c + d)) = (256 * a + b) ^^^ (256 * c + d) := by
        have : (n ^^^ (256 * a + b)) ^^^ (n ^^^ (256 * c + d)) = (n ^^^ n) ^^^ ((256 * a + b) ^^^ (256 * c + d)) := by ac_rfl
        rw [this, Nat.xor_self, Nat.zero_xor]
      rw [h2] at h1
      exact xor_zero_eq h1
    · intro h; rw [h]
  rw [key]; omega
/-- the sum is told apart at any place: behind two bytes that differ nothing makes it good -/
theorem on_inj {x y : Nat} (hx : x < 65536) (hy : y < 65536) (l : List Nat) (hl : ∀ a ∈ l, a < 256) : on x l = on y l ↔ x = y := by
  induction l generalizing x y with
  | nil => rfl
  | cons c l ih =>
    rw [on_cons, on_cons, ih stp_lt stp_lt (fun z hz => hl z (by simp [hz]))]
    constructor
    · intro h
      have hc := hl c (by simp)
      have h0 : f8 ((x ^^^ 256 * c) ^^^ (y ^^^ 256 * c)) = 0 := by
        have h' : f8 (x ^^^ 256 * c) = f8 (y ^^^ 256 * c) := h
        rw [f8_xor (lay_lt hx hc) (lay_lt hy hc), h', Nat.xor_self]
      have h1 := f8_zero (Nat.xor_lt_two_pow (n := 16) (lay_lt hx hc) (lay_lt hy hc)) h0
      have h2 : (x ^^^ 256 * c) ^^^ (y ^^^ 256 * c) = x ^^^ y := by
        have : (x ^^^ 256 * c) ^^^ (y ^^^ 256 * c) = (256 * c ^^^ 256 * c) ^^^ (x ^^^ y) := by ac_rfl
        rw [this, Nat.xor_self, Nat.zero_xor]
      rw [h2] at h1
      exact xor_zero_eq h1
    · intro h; rw [h]
/-- what is sealed, two bytes turned -/
theorem on_zeros (k : Nat) (l : List Nat) : on 0 (List.replicate k 0 ++ l) = on 0 l := by
  induction k with
  | zero => rfl
  | succ k ih => rw [List.replicate_succ, List.cons_append, on_cons]; exact ih

theorem and_mask (a : Int) : bits .and .i64 a 65535 = a % 65536 := by
  have h : (BitVec.ofInt 64 a).toNat &&& (BitVec.ofInt 64 65535).toNat = (a % 65536).toNat := by
    rw [BitVec.toNat_ofInt, show (BitVec.ofInt 64 65535).toNat = 2 ^ 16 - 1 from rfl, Nat.and_two_pow_sub_one_eq_mod]
    omega
  show IntKind.i64.wrap ((BitVec.ofInt 64 a &&& BitVec.ofInt 64 65535).toNat : Int) = _
  rw [BitVec.toNat_and, h, IntKind.wrap_i64]
  omega
theorem and_mask_nat (n : Nat) : bits .and .i64 (n : Int) 65535 = ((n % 65536 : Nat) : Int) := by rw [and_mask]; omega
theorem xor_nat (a b : Nat) (ha : a < 65536) (hb : b < 65536) : bits .xor .i64 (a : Int) (b : Int) = ((a ^^^ b : Nat) : Int) := by
  have ha' : a % 2 ^ 64 = a := Nat.mod_eq_of_lt (by omega)
  have hb' : b % 2 ^ 64 = b := Nat.mod_eq_of_lt (by omega)
  have hx : a ^^^ b < 65536 := Nat.xor_lt_two_pow (n := 16) ha hb
  show IntKind.i64.wrap ((BitVec.ofInt 64 (a : Int) ^^^ BitVec.ofInt 64 (b : Int)).toNat : Int) = _
  rw [BitVec.toNat_xor, BitVec.ofInt_natCast, BitVec.ofInt_natCast, BitVec.toNat_ofNat, BitVec.toNat_ofNat, ha', hb', IntKind.wrap_i64]
  omega
/-- so many doublings -/
def dn : Nat → Nat → Nat
  | 0, x => x
  | j + 1, x => dbl (dn j x)
theorem dn_lt {x : Nat} (hx : x < 65536) : ∀ j, dn j x < 65536
  | 0 => hx
  | _ + 1 => dbl_lt
theorem dbl_hi {n : Nat} (h : 32768 ≤ n) : dbl n = (2 * n % 65536) ^^^ 4129 := by unfold dbl; rw [if_pos h]
theorem dbl_lo {n : Nat} (h : ¬ 32768 ≤ n) : dbl n = 2 * n % 65536 := by unfold dbl; rw [if_neg h, Nat.xor_zero]
/-- the table, its first k places filled -/
def tabArr (k : Nat) : Array Value := Array.ofFn (n := 16) fun i => .int .i64 (if i.val < k then ((f4 (4096 * i.val) : Nat) : Int) else 0)
theorem tabArr_zero : tabArr 0 = #[.int .i64 0, .int .i64 0, .int .i64 0, .int .i64 0, .int .i64 0, .int .i64 0, .int .i64 0, .int .i64 0, .int .i64 0, .int .i64 0, .int .i64 0, .int .i64 0, .int .i64 0, .int .i64 0, .int .i64 0, .int .i64 0] := by
  simp only [tabArr, Nat.not_lt_zero, if_false]
  rfl
theorem tabArr_size (k : Nat) : (tabArr k).size = 16 := by simp [tabArr]
theorem tabArr_set (k : Nat) : (tabArr k).setIfInBounds k (.int .i64 ((f4 (4096 * k) : Nat) : Int)) = tabArr (k + 1) := by
  apply Array.ext
  · simp [tabArr]
  · intro i h1 h2
    have hi : i < 16 := by simpa [tabArr] using h2
    rw [Array.getElem_setIfInBounds (by simpa [tabArr] using hi)]
    by_cases e : k = i
    · subst e; simp [tabArr]
    · rw [if_neg e]
      simp only [tabArr, Array.getElem_ofFn]
      have : (i < k) ↔ (i < k + 1) := by omega
      simp only [this]
theorem tabArr_get (j : Nat) (hj : j < 16) : (tabArr 16)[j]? = some (.int .i64 ((f4 (4096 * j) : Nat) : Int)) := by
  rw [Array.getElem?_eq_getElem (by simpa [tabArr] using hj)]
  simp [tabArr]
/-- a string's bytes as numbers -/
def nats (s : ByteArray) : List Nat := s.data.toList.map UInt8.toNat
theorem nats_length (s : ByteArray) : (nats s).length = s.size := by simp [nats]
theorem nats_lt (s : ByteArray) : ∀ a ∈ nats s, a < 256 := by
  intro a h
  simp only [nats, List.mem_map] at h
  obtain ⟨b, _, rfl⟩ := h
  exact b.toNat_lt
/-- a sum that goes on, as the program's function has it -/
def crcOn (a : Int) (s : ByteArray) : Int := ((on (a % 65536).toNat (nats s) : Nat) : Int)
theorem on_take_succ (n : Nat) (l : List Nat) (k : Nat) (h : k < l.length) : on n (l.take (k + 1)) = stp (on n (l.take k)) (l.getD k 0) := by
  rw [List.take_succ_eq_append_getElem h, on_append, List.getD_eq_getElem?_getD, List.getElem?_eq_getElem h]
  rfl
theorem shl8_xor {n c : Nat} (hn : n < 65536) (hc : c < 256) : bits .xor .i64 (n : Int) ((c : Int) * 256) = ((n ^^^ 256 * c : Nat) : Int) := by
  rw [show ((c : Int) * 256) = ((256 * c : Nat) : Int) by omega]
  exact xor_nat n (256 * c) hn (by omega)
/-- half a byte: the code's own steps -/
theorem half_step {n : Nat} (hn : n < 65536) : bits .xor .i64 ((16 * n % 65536 : Nat) : Int) ((f4 (4096 * (n / 4096)) : Nat) : Int) = ((f4 n : Nat) : Int) := by
  rw [xor_nat _ _ (by omega) f4_lt, ← nib_eq hn]
  have ht : ∀ i : Fin 16, tab.getD i.val 0 = f4 (4096 * i.val) := by decide +kernel
  have h2 : tab.getD (n / 4096) 0 = f4 (4096 * (n / 4096)) := ht ⟨n / 4096, by omega⟩
  unfold nib
  rw [h2]
end Go.Proofs.Ytdmgndiglpcpfaa.CrcPlain
