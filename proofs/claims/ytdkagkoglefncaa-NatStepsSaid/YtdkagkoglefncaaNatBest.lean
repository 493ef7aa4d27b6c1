/- The walks of nat.Most and nat.Least: for every row of numbers the call returns the greatest (the least) one, 0 of none, and turns nothing. -/
import Derived.Test.YtdkagkoglefncaaProg
import Derived.Test.YtdkagkoglefncaaWWords
import Derived.Lib.Hide
namespace Go.Proofs.Ytdkagkoglefncaa.Best
open Go.RowKit Go.Proofs.YtdkagkoglefncaaW.PrintWords
/-- the first one that no other one is better than -/
def bestL (B : Int → Int → Bool) (l : List Int) : Int := (l.foldl (fun (x : Option Int) n => match x with | none => some n | some y => if B n y = true then some n else some y) none).getD 0
def gt (a b : Int) : Bool := decide (b < a)
def lt (a b : Int) : Bool := decide (a < b)
theorem bestL_snoc (B : Int → Int → Bool) (l : List Int) (n : Int) : bestL B (l ++ [n]) = if l = [] then n else if B n (bestL B l) = true then n else bestL B l := by
  have hacc : ∀ (l : List Int) (y : Int), ∃ z, (l.foldl (fun (x : Option Int) n => match x with | none => some n | some y => if B n y = true then some n else some y) (some y)) = some z := by
    intro l
    induction l with
    | nil => intro y; exact ⟨y, rfl⟩
    | cons a l ih =>
      intro y
      simp only [List.foldl_cons]
      split
      · exact ih a
      · exact ih y
  have hsome : ∀ l : List Int, l ≠ [] → ∃ y, (l.foldl (fun (x : Option Int) n => match x with | none => some n | some y => if B n y = true then some n else some y) none) = some y := by
    intro l h
    cases l with
    | nil => exact absurd rfl h
    | cons a l => exact hacc l a
  by_cases h : l = []
  · subst h; rfl
  · rw [if_neg h]
    obtain ⟨y, hy⟩ := hsome l h
    unfold bestL
    rw [List.foldl_append, hy]
    simp only [List.foldl_cons, List.foldl_nil, Option.getD_some]
    split <;> rfl

theorem most_lit (a b : Int) (w : World) : Calls Try.prog 25 #[.int .i64 a, .int .i64 b] w fun e w' => e = .returned (.bool (gt a b)) ∧ w = w' := by
  unfold gt
  go_enter Try.func25, Try.ntmps25
  go_wp2
  go_ret
  exact ⟨rfl, rfl⟩
set_option maxHeartbeats 800000 in
theorem most_best (A0 : Option Addr) (c0 : Nat) (l : List Int) (w : World) (hr : ReadsInt w .i64 A0 l.length l) :
    Calls Try.prog 24 #[.slice A0 l.length c0, .func (.func 25) #[] #[]] w fun e w' => e = .returned (.int .i64 (bestL gt l)) ∧ w = w' := by
  have hm : l.length ≤ 9223372036854775807 := hr.2.1
  have HR := Lib.hid hr
  clear hr
  go_enter Try.func24, Try.ntmps24
  go_wp2
  go_loop [5, 10] (fun x i => ∃ (k : Nat) (y : Int), k ≤ l.length ∧ i = .int .i64 k ∧ Hid (y = bestL gt (l.take k)) ∧ x = .int .i64 y) (fun _ i => l.length - (intOf i).toNat)
  case atStart => exact ⟨0, 0, by omega, rfl, Lib.hid rfl, rfl⟩
  case round =>
    obtain ⟨k, y, hk, rfl, Hy, rfl⟩ := hrel
    by_cases hlt : k < l.length
    · obtain ⟨ad, rfl, hc⟩ := HR.out.at_ (k : Int) (by omega) (by omega)
      rw [Int.toNat_natCast] at hc
      have hsn : bestL gt (l.take (k + 1)) = if l.take k = [] then rd l k else if gt (rd l k) (bestL gt (l.take k)) = true then rd l k else bestL gt (l.take k) := by
        have e : l.take (k + 1) = l.take k ++ [rd l k] := by
          rw [List.take_succ_eq_append_getElem hlt]
          simp [rd, List.getD_eq_getElem?_getD, hlt]
        rw [e, bestL_snoc]
      rw [← Hy.out] at hsn
      have Hs := Lib.hid hsn
      clear hsn
      generalize rd l (k : Int) = v at *
      by_cases h0 : k = 0
      · subst h0
        rw [show ad.add 0 = ad from by unfold Addr.add; split <;> simp_all] at hc
        go_wp2
        go_round
        case rel => exact ⟨1, v, by omega, by go_num, Lib.hid (by rw [Hs.out]; simp), rfl⟩
        case measure => simp [intOf]; omega
      · have hne : l.take k ≠ [] := by
          intro e
          have : (l.take k).length = 0 := by rw [e]; rfl
          rw [List.length_take] at this
          omega
        have h0b : ((k : Int) == 0) = false := beq_eq_false_iff_ne.2 (by omega)
        have Hn := Lib.hid hne
        clear hne
        by_cases hb : gt v y = true
        · have Hb := Lib.hid hb
          clear hb
          go_wp2_with (go_at_call 25; refine (most_lit _ _ _).mono ?_; rintro e w1 ⟨rfl, rfl⟩; rw [Hb.out])
          go_round
          case rel => exact ⟨k + 1, v, by omega, by go_num, Lib.hid (by rw [Hs.out, if_neg Hn.out, if_pos Hb.out]), rfl⟩
          case measure => simp [intOf]; omega
        · have hb2 : gt v y = false := by simpa using hb
          have Hb := Lib.hid hb2
          clear hb hb2
          go_wp2_with (go_at_call 25; refine (most_lit _ _ _).mono ?_; rintro e w1 ⟨rfl, rfl⟩; rw [Hb.out])
          go_round
          case rel => exact ⟨k + 1, y, by omega, by go_num, Lib.hid (by rw [Hs.out, if_neg Hn.out, if_neg (by rw [Hb.out]; decide)]), rfl⟩
          case measure => simp [intOf]; omega
    · have hd : decide (k < l.length) = false := decide_eq_false hlt
      go_wp2
      go_ret
      exact ⟨by rw [Hy.out, List.take_of_length_le (by omega)]; rfl, rfl⟩
theorem most_walk (A0 : Option Addr) (c0 : Nat) (l : List Int) (w : World) (hr : ReadsInt w .i64 A0 l.length l) :
    Calls Try.prog 19 #[.slice A0 l.length c0] w fun e w' => e = .returned (.int .i64 (bestL gt l)) ∧ w = w' := by
  go_enter Try.func19, Try.ntmps19
  go_wp2_with (go_at_call 24; refine (most_best _ _ _ _ hr).mono ?_; rintro e w1 ⟨rfl, rfl⟩)
  go_ret
  exact ⟨rfl, rfl⟩

theorem least_lit (a b : Int) (w : World) : Calls Try.prog 26 #[.int .i64 a, .int .i64 b] w fun e w' => e = .returned (.bool (lt a b)) ∧ w = w' := by
  unfold lt
  go_enter Try.func26, Try.ntmps26
  go_wp2
  go_ret
  exact ⟨rfl, rfl⟩
set_option maxHeartbeats 800000 in
theorem least_best (A0 : Option Addr) (c0 : Nat) (l : List Int) (w : World) (hr : ReadsInt w .i64 A0 l.length l) :
    Calls Try.prog 24 #[.slice A0 l.length c0, .func (.func 26) #[] #[]] w fun e w' => e = .returned (.int .i64 (bestL lt l)) ∧ w = w' := by
  have hm : l.length ≤ 9223372036854775807 := hr.2.1
  have HR := Lib.hid hr
  clear hr
  go_enter Try.func24, Try.ntmps24
  go_wp2
  go_loop [5, 10] (fun x i => ∃ (k : Nat) (y : Int), k ≤ l.length ∧ i = .int .i64 k ∧ Hid (y = bestL lt (l.take k)) ∧ x = .int .i64 y) (fun _ i => l.length - (intOf i).toNat)
  case atStart => exact ⟨0, 0, by omega, rfl, Lib.hid rfl, rfl⟩
  case round =>
    obtain ⟨k, y, hk, rfl, Hy, rfl⟩ := hrel
    by_cases hlt : k < l.length
    · obtain ⟨ad, rfl, hc⟩ := HR.out.at_ (k : Int) (by omega) (by omega)
      rw [Int.toNat_natCast] at hc
      have hsn : bestL lt (l.take (k + 1)) = if l.take k = [] then rd l k else if lt (rd l k) (bestL lt (l.take k)) = true then rd l k else bestL lt (l.take k) := by
        have e : l.take (k + 1) = l.take k ++ [rd l k] := by
          rw [List.take_succ_eq_append_getElem hlt]
          simp [rd, List.getD_eq_getElem?_getD, hlt]
        rw [e, bestL_snoc]
      rw [← Hy.out] at hsn
      have Hs := Lib.hid hsn
      clear hsn
      generalize rd l (k : Int) = v at *
      by_cases h0 : k = 0
      · subst h0
        rw [show ad.add 0 = ad from by unfold Addr.add; split <;> simp_all] at hc
        go_wp2
        go_round
        case rel => exact ⟨1, v, by omega, by go_num, Lib.hid (by rw [Hs.out]; simp), rfl⟩
        case measure => simp [intOf]; omega
      · have hne : l.take k ≠ [] := by
          intro e
          have : (l.take k).length = 0 := by rw [e]; rfl
          rw [List.length_take] at this
          omega
        have h0b : ((k : Int) == 0) = false := beq_eq_false_iff_ne.2 (by omega)
        have Hn := Lib.hid hne
        clear hne
        by_cases hb : lt v y = true
        · have Hb := Lib.hid hb
          clear hb
          go_wp2_with (go_at_call 26; refine (least_lit _ _ _).mono ?_; rintro e w1 ⟨rfl, rfl⟩; rw [Hb.out])
          go_round
          case rel => exact ⟨k + 1, v, by omega, by go_num, Lib.hid (by rw [Hs.out, if_neg Hn.out, if_pos Hb.out]), rfl⟩
          case measure => simp [intOf]; omega
        · have hb2 : lt v y = false := by simpa using hb
          have Hb := Lib.hid hb2
          clear hb hb2
          go_wp2_with (go_at_call 26; refine (least_lit _ _ _).mono ?_; rintro e w1 ⟨rfl, rfl⟩; rw [Hb.out])
          go_round
          case rel => exact ⟨k + 1, y, by omega, by go_num, Lib.hid (by rw [Hs.out, if_neg Hn.out, if_neg (by rw [Hb.out]; decide)]), rfl⟩
          case measure => simp [intOf]; omega
    · have hd : decide (k < l.length) = false := decide_eq_false hlt
      go_wp2
      go_ret
      exact ⟨by rw [Hy.out, List.take_of_length_le (by omega)]; rfl, rfl⟩
theorem least_walk (A0 : Option Addr) (c0 : Nat) (l : List Int) (w : World) (hr : ReadsInt w .i64 A0 l.length l) :
    Calls Try.prog 21 #[.slice A0 l.length c0] w fun e w' => e = .returned (.int .i64 (bestL lt l)) ∧ w = w' := by
  go_enter Try.func21, Try.ntmps21
  go_wp2_with (go_at_call 24; refine (least_best _ _ _ _ hr).mono ?_; rintro e w1 ⟨rfl, rfl⟩)
  go_ret
  exact ⟨rfl, rfl⟩
end Go.Proofs.Ytdkagkoglefncaa.Best
