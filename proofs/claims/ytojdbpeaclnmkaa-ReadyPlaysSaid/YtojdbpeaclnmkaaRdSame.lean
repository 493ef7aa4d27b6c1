/- Rows of jobs for the document's answer, and whether two are alike: what the calls come to. -/
import Derived.Test.YtojdbpeaclnmkaaRdPure
set_option linter.unusedVariables false
set_option linter.unusedSimpArgs false
namespace Go.Proofs.Ytojdbpeaclnmkaa.Rd
open Go Go.RowKit Go.Proofs.YtojdbpeaclnmkaaW.PrintWords Go.Proofs.YtojdbpeaclnmkaaW.PrintLast Go.Proofs.YtojdbpeaclnmkaaW.PrintMore Go.Proofs.Ytojdbpeaclnmkaa Go.Proofs.Ytojdbpeaclnmkaa.Print
theorem wrapIn {x : Int} (h : -9223372036854775808 ≤ x ∧ x ≤ 9223372036854775807) : wrap64 x = x := by unfold wrap64; omega
def conv (j : S30) : S36 := ⟨j.f0, j.f1, j.f2⟩
theorem plain_loop (l : List S30) (hl : l.length ≤ 1000000) : ∀ d j k : Nat, j + d = l.length → d < k → camshaftlaw17_plain.l0 k l ((l.take j).map conv) (j : Int) = some (l.map conv) := by
  intro d
  induction d with
  | zero =>
    intro j k hj hk
    obtain ⟨k, rfl⟩ : ∃ m, k = m + 1 := ⟨k - 1, by omega⟩
    rw [camshaftlaw17_plain.l0, if_neg (by omega), List.take_of_length_le (by omega)]
  | succ d ih =>
    intro j k hj hk
    obtain ⟨k, rfl⟩ : ∃ m, k = m + 1 := ⟨k - 1, by omega⟩
    have hw : wrap64 ((j : Int) + 1) = ((j + 1 : Nat) : Int) := by rw [wrapIn (by omega)]; omega
    have hrd : rd_T30 l (j : Int) = l.getD j z30 := by unfold rd_T30; rw [Int.toNat_natCast]
    rw [camshaftlaw17_plain.l0, if_pos (by omega), if_pos (by omega), hrd]
    unfold camshaftlaw17_one.f
    simp only [Option.bind_some]
    rw [if_pos (by simp; omega), hw, ← ih (j + 1) k (by omega) (by omega), take_snoc l j (by omega), List.map_append]
    rfl
theorem plain_f (l : List S30) (hl : l.length ≤ 1000000) (k : Nat) (hk : l.length < k) : camshaftlaw17_plain.f k l = some (l.map conv) := plain_loop l hl l.length 0 k (by omega) hk
theorem same_loop (xs : List S36) (hl : xs.length ≤ 1000000) : ∀ d j k : Nat, j + d = xs.length → d < k → camshaftref17_Same.l0 k xs xs (j : Int) = some true := by
  intro d
  induction d with
  | zero =>
    intro j k hj hk
    obtain ⟨k, rfl⟩ : ∃ m, k = m + 1 := ⟨k - 1, by omega⟩
    rw [camshaftref17_Same.l0, if_neg (by omega)]
  | succ d ih =>
    intro j k hj hk
    obtain ⟨k, rfl⟩ : ∃ m, k = m + 1 := ⟨k - 1, by omega⟩
    have hw : wrap64 ((j : Int) + 1) = ((j + 1 : Nat) : Int) := by rw [wrapIn (by omega)]; omega
    rw [camshaftref17_Same.l0, if_pos (by omega), if_pos (by omega), if_pos (by omega), if_neg (by simp), hw]
    exact ih (j + 1) k (by omega) (by omega)
theorem same_f (xs : List S36) (hl : xs.length ≤ 1000000) (k : Nat) (hk : xs.length < k) : camshaftref17_Same.f k xs xs = some true := by
  unfold camshaftref17_Same.f
  rw [if_pos rfl]
  exact same_loop xs hl xs.length 0 k (by omega) hk
/-- what is read as a row of jobs -/
theorem row_reads {w : World} {B c : Nat} {A : Option Addr} {l : List S30} (h : RowIs w B (.slice A l.length c) l) (k : Nat) (hk : k ≤ l.length) (hl : l.length ≤ 1000000) : Kd.C k30 w (A.map (·.add (k * 3))) (l.length - k) (l.drop k) := by
  refine ⟨by rw [List.length_drop], by omega, fun h0 => ?_⟩
  obtain ⟨h1, h2⟩ := id h
  rcases h2 with ⟨h3, h4⟩ | ⟨b, cap, cur, h3, _⟩
  · omega
  · injection h3 with h3 _ h5
    subst h3 h5
    refine ⟨⟨b, k * 3, none⟩, congrArg some (add_plain b (k * 3)), fun j p hj => ⟨enc3 p, rfl, k30_mk w p, fun i u hu => ?_⟩⟩
    have hi : i < 3 := (List.getElem?_eq_some_iff.1 hu).1
    rw [List.getElem?_drop] at hj
    have hc := LRow.cell h ((k + j) * 3 + i) u (by rw [flat_get l (k + j) i hi, hj]; exact hu)
    rw [add_plain] at hc
    have e3 : k30.sz = 3 := rfl
    rw [add_at, e3, show k * 3 + (j * 3 + i) = (k + j) * 3 + i by omega]
    exact hc
theorem row_all {w : World} {B c : Nat} {A : Option Addr} {l : List S30} (h : RowIs w B (.slice A l.length c) l) (hl : l.length ≤ 1000000) : Kd.C k30 w A l.length l := by
  have h0 := row_reads h 0 (Nat.zero_le _) hl
  rw [Nat.sub_zero, List.drop_zero] at h0
  refine ⟨rfl, h0.2.1, fun hn => ?_⟩
  obtain ⟨ad, h1, h2⟩ := h0.2.2 hn
  cases A with
  | none => cases h1
  | some a =>
    refine ⟨a, rfl, fun j p hj => ?_⟩
    have e : ad = a.add (0 * 3) := (Option.some.inj (h1 : some (a.add (0 * 3)) = some ad)).symm
    have e2 : a.add (0 * 3) = a := by unfold Addr.add; split <;> simp_all
    rw [e, e2] at h2
    exact h2 j p hj
def PlIs (w : World) (A : Option Addr) (c : Nat) (l : List S30) : Prop := l.length ≤ c ∧ Kd.C k36 w A l.length (l.map conv)
theorem PlIs.step {w w1 : World} {A : Option Addr} {c : Nat} {l : List S30} (h : PlIs w A c l) (hb : Below w.heap.size w w1) : PlIs w1 A c l := ⟨h.1, Kd.C_below h.2 hb⟩
theorem plainC {W : World} {A : Option Addr} {c : Nat} {l : List S30} (hr : Kd.C k30 W A l.length l) (hc : l.length ≤ c) (hl : l.length ≤ 100000) : Calls Try.prog 18 #[.slice A l.length c] W fun e w' => ∃ A' c', e = .returned (.slice A' l.length c') ∧ PlIs w' A' c' l ∧ Below W.heap.size W w' := by
  refine (camshaftlaw17_plain.calls (l.length + 1) A c l (l.map conv) W hr hc (plain_f l (by omega) _ (by omega))).mono ?_
  rintro e w' ⟨v, rfl, hR, hb⟩
  obtain ⟨A', c', hv, h1, h2⟩ := Kd.R_reads hR
  rw [List.length_map] at hv h1 h2
  exact ⟨A', c', by rw [hv], ⟨h1, h2⟩, hb⟩
theorem sameC {W : World} {A A' : Option Addr} {c c' : Nat} {l : List S30} (h : PlIs W A c l) (h' : PlIs W A' c' l) (hl : l.length ≤ 100000) : Calls Try.prog 17 #[.slice A l.length c, .slice A' l.length c'] W fun e w' => e = .returned (.bool true) ∧ Below W.heap.size W w' := by
  have e : (l.map conv).length = l.length := List.length_map _
  have h0 := camshaftref17_Same.calls (l.length + 1) A c (l.map conv) A' c' (l.map conv) true W (by rw [e]; exact h.2) (by rw [e]; exact h.1) (by rw [e]; exact h'.2) (by rw [e]; exact h'.1) (same_f _ (by omega) _ (by omega))
  rw [e] at h0
  refine h0.mono ?_
  rintro e w' ⟨rfl, hd⟩
  exact ⟨rfl, hd.below⟩
/-- all of one of several, laid for the document's answer -/
theorem allB {w0 W : World} {L1 L2 : List (Key × List S30)} {g : Nat} {l : List S30} (h : Sts w0 W (L1 ++ (.set g, l) :: L2)) (hl : l.length ≤ 10000) : Calls Try.prog 19 #[.pointer (some ⟨g, 0, none⟩)] W fun e w' => ∃ A c, l.length ≤ c ∧ e = .returned (.slice A l.length c) ∧ Sts w0 w' (L1 ++ (.set g, l) :: L2) ∧ Kd.C k30 w' A l.length l ∧ Below W.heap.size W w' := by
  obtain ⟨v, hv⟩ := h.get
  refine (allOf g _ v l W hv hl).mono ?_
  rintro e w' ⟨va, rfl, hr, hb⟩
  obtain ⟨A, c, rfl, hc⟩ := LRow.slice hr
  exact ⟨A, c, hc, rfl, h.step hb, row_all hr (by omega), hb⟩
theorem pick_shift (l : List S30) (p k : Int) : pickPlace l (p + ((places l (mxp l)).length : Int) * k) = pickPlace l p := by
  unfold pickPlace
  rw [Int.add_mul_emod_self_left]
end Go.Proofs.Ytojdbpeaclnmkaa.Rd
