/- The reference's Tick: the same releases laid, told and left as the timer's own. -/
import Derived.Test.YtdpfbmhdbnkdaaaTmRWait
set_option linter.unusedVariables false
set_option linter.unusedSimpArgs false
namespace Go.Proofs.Ytdpfbmhdbnkdaaa.Tm
open Go Go.RowKit Go.Proofs.YtdpfbmhdbnkdaaaW.PrintWords Go.Proofs.YtdpfbmhdbnkdaaaW.PrintLast Go.Proofs.YtdpfbmhdbnkdaaaW.PrintMore Go.Proofs.Ytdpfbmhdbnkdaaa Go.Proofs.Ytdpfbmhdbnkdaaa.Print
attribute [local go_sem] max2_int min2_int max_two min_two
theorem Has.nowRef {w0 W : World} {L1 L2 : List Asn} {g : Nat} {pv v : Value} {now : Nat} {l : List W3} (h : Has w0 W (L1 ++ refA g pv now v l :: L2)) (m : Nat) : Has w0 (W.setCell ⟨g, 1, none⟩ (.int .i64 m)) (L1 ++ refA g pv m v l :: L2) := by
  refine h.turn (fun S hS => ?_)
  obtain ⟨rfl, h1, h2⟩ := hS
  by_cases hg : v.ownBlock = some g
  · exact absurd hg (fun hg => by
      obtain ⟨_, _, cur, hc⟩ := LRow.lt h2 g hg
      rw [h1] at hc
      injection hc with hc
      injection hc with _ hc _
      exact absurd hc (by decide))
  · refine ⟨g :: ownL v, ⟨rfl, (blk_set h1 1 _).trans rfl, h2.move (fun k hk => Below.heap_setCell W ⟨g, 1, none⟩ _ k (fun e => hg (by have e2 : k = g := e; rw [← e2]; exact hk)))⟩, (Keeps.refl _ W).setCell g 1 _ (.inl (by simp)), fun k hk => .inl hk⟩
theorem told_next (now : Int) (R : List W3) (i : Nat) (y : W3) (h : R[i]? = some y) : (y.a ≤ now → (told now (R.take (i + 1))).map W3.due = (told now (R.take i)).map W3.due ++ [(⟨y.t, y.n⟩ : S48)] ∧ left now (R.take (i + 1)) = left now (R.take i)) ∧ (¬ y.a ≤ now → (told now (R.take (i + 1))).map W3.due = (told now (R.take i)).map W3.due ∧ left now (R.take (i + 1)) = left now (R.take i) ++ [y]) := by
  rw [take_next R i y h]
  unfold told left
  rw [List.filter_append, List.filter_append]
  constructor
  · intro hy
    simp [hy, W3.due]
  · intro hy
    simp [hy]
def RT1 (w0 : World) (g pb pc : Nat) (ps : List Int) (now : Nat) (qs : List Int) (l : List W3) (L1 L2 : List Asn) (vk vi : Value) (wr : World) : Prop := ∃ (i k : Nat) (v' : Value) (l' : List W3), i ≤ ps.length ∧ k ≤ i ∧ vi = .int .i64 i ∧ vk = .int .i64 k ∧ l'.length ≤ l.length + i ∧ rel now i (ps.drop i) (qs.drop k) l' = rel now 0 ps qs l ∧
  Has w0 wr (L1 ++ refA g (.slice (some ⟨pb, 0, none⟩) ps.length pc) now v' l' :: intA (.slice (some ⟨pb, 0, none⟩) ps.length pc) ps :: L2)
def RT2 (w0 : World) (LT : List Asn) (now : Nat) (R : List W3) (vo vr vi : Value) (wr : World) : Prop := ∃ (i : Nat) (Ao : Option Addr) (co : Nat) (D : List S48) (Ar : Option Addr) (cr : Nat) (E : List W3), i ≤ R.length ∧ vi = .int .i64 i ∧ vo = .slice Ao D.length co ∧ vr = .slice Ar E.length cr ∧ D = (told now (R.take i)).map W3.due ∧ E = left now (R.take i) ∧ D.length ≤ i ∧ E.length ≤ i ∧
  Has w0 wr (waitA (.slice Ar E.length cr) E :: dueR (.slice Ao D.length co) D :: LT)
set_option maxRecDepth 100000 in
set_option maxHeartbeats 4000000 in
theorem refTick {w0 W : World} {L1 L2 : List Asn} {g pb pc : Nat} {v : Value} {now : Nat} {l : List W3} {ps qs : List Int} {A : Option Addr} {c : Nat} (h : Has w0 W (L1 ++ refA g (.slice (some ⟨pb, 0, none⟩) ps.length pc) now v l :: intA (.slice (some ⟨pb, 0, none⟩) ps.length pc) ps :: L2)) (hok : PsOk ps) (hl : l.length ≤ 90000) (hn : now ≤ 10000) (hq : PkAt w0 A c qs) (hql : (qs.length : Int) ≤ 9223372036854775807) :
    Calls Try.prog 15 #[.pointer (some ⟨g, 0, none⟩), .slice A qs.length c] W fun e w' => ∃ A' c' v', e = .returned (.slice A' ((told now (rel now 0 ps qs l)).map W3.due).length c') ∧
      Has w0 w' (dueR (.slice A' ((told now (rel now 0 ps qs l)).map W3.due).length c') ((told now (rel now 0 ps qs l)).map W3.due) :: (L1 ++ refA g (.slice (some ⟨pb, 0, none⟩) ps.length pc) (now + 1) v' (left now (rel now 0 ps qs l)) :: intA (.slice (some ⟨pb, 0, none⟩) ps.length pc) ps :: L2)) := by
  have H0 := Lib.hid h
  have HQ := Lib.hid hq
  have HK := Lib.hid hok
  have hl9 := Lib.hid hl
  replace hql := Lib.hid hql
  have hnow : (now : Int) ≤ 10000 := by omega
  clear h hq hok hl hn
  go_enter Try.func15, Try.ntmps15
  go_wp2_with fail
  go_loopw [5, 6] (fun vk vi wr => RT1 w0 g pb pc ps now qs l L1 L2 vk vi wr) (fun _ vi _ => ps.length - (intOf vi).toNat)
  case atStart => exact ⟨0, 0, v, l, Nat.zero_le _, Nat.zero_le _, rfl, rfl, Nat.le_refl _, rfl, H0.out⟩
  case round =>
    obtain ⟨i, k, v', l', hi, hki, rfl, rfl, hll, hend, HS⟩ := hrel
    replace HS := Lib.hid HS
    clear H0
    replace hki := Lib.hid hki
    replace hll := Lib.hid hll
    obtain ⟨c0, c1, c2, A2, c, rfl, _⟩ := ref_cells (g := g) (pv := .slice (some ⟨pb, 0, none⟩) ps.length pc) (v := v') (now := now) (l := l') HS.out (by simp)
    by_cases hip : i < ps.length
    · have hip' : (i : Int) < (ps.length : Int) := Int.ofNat_lt.2 hip
      have hi8 : i < 8 := by have := HK.out.le; omega
      obtain ⟨pb', hpb', hcell⟩ := int_cell (A := some ⟨pb, 0, none⟩) (c := pc) (l := ps) HS.out (by simp) rfl i (ps.getD i 0) (by rw [List.getD_eq_getElem?_getD, List.getElem?_eq_getElem hip]; rfl)
      injection hpb' with hpb'
      injection hpb' with hpb' _ _
      subst hpb'
      have hpm : ps.getD i 0 ∈ ps := by rw [List.getD_eq_getElem?_getD, List.getElem?_eq_getElem hip]; exact List.getElem_mem hip
      obtain ⟨hp1, hp2⟩ := HK.out.each _ hpm
      rw [drop_cons ps i hip] at hend
      generalize ps.getD i 0 = p at *
      have hp0 : (p == 0) = false := beq_eq_false_iff_ne.mpr (by omega)
      have hpne : ¬ p = 0 := by omega
      have hmod0 := Int.emod_nonneg (now : Int) (b := p) (by omega)
      have htm := Lib.hid (Int.tmod_eq_emod_of_nonneg (a := (now : Int)) (b := p) (Int.natCast_nonneg now))
      have tki : decide (ps.length ≤ i) = false := decide_eq_false (Nat.not_le.2 hip)
      replace hmod0 := Lib.hid hmod0
      replace hend := Lib.hid hend
      have hip3 := Lib.hid hip
      clear hpm hi hip
      by_cases hd : (now : Int) % p = 0
      · have t1 : ((now : Int) % p != 0) = false := by simp [hd]
        have t2 : ((now : Int) % p == 0) = true := by simp [hd]
        replace hd := Lib.hid hd
        go_wp2_with fail
        refine start_ (n := 13) (S := fun w' => w'.cell? ⟨g, 1, none⟩ = some (.int .i64 now) ∧ w'.cell? ⟨g, 0, none⟩ = some (.slice (some ⟨pb, 0, none⟩) ps.length pc) ∧ w'.cell? ⟨pb, i, none⟩ = some (.int .i64 p)) (ds := []) #[false, false, false, false, false, false, false, false, false, false, false, false, false] (by kernel_rfl) rfl rfl ⟨c1, c0, hcell⟩ (fun hHeld => ?_)
        refine pure_ (i := 0) (N := some 20) (v := ?_) (a' := ?_) #[true, false, false, false, false, false, false, false, false, false, false, false, false] rfl rfl (by kernel_rfl) (fun _ _ _ h => h) (Or.inl ⟨by rfl, ?_⟩) ?_ ?_
        rotate_left
        · intro w'
          go_simp
          first | with_reducible rfl | rfl
        rotate_left
        · simp only [Act.put, List.setIfInBounds_toArray, List.set_cons_zero, List.set_cons_succ, i64_w, i32_w]
          rfl
        refine pure_ (i := 1) (N := some 21) (v := ?_) (a' := ?_) #[true, true, false, false, false, false, false, false, false, false, false, false, false] rfl rfl (by kernel_rfl) (fun _ _ _ h => h) (Or.inl ⟨by rfl, ?_⟩) ?_ ?_
        rotate_left
        · intro w'
          go_simp
          first | with_reducible rfl | rfl
        rotate_left
        · simp only [Act.put, List.setIfInBounds_toArray, List.set_cons_zero, List.set_cons_succ, i64_w, i32_w]
          rfl
        refine pure_ (i := 2) (N := some 22) (v := ?_) (a' := ?_) #[true, true, true, false, false, false, false, false, false, false, false, false, false] rfl rfl (by kernel_rfl) (fun _ _ _ h => h) (Or.inl ⟨by rfl, ?_⟩) ?_ ?_
        rotate_left
        · intro w'
          go_simp
          first | with_reducible rfl | rfl
        rotate_left
        · simp only [Act.put, List.setIfInBounds_toArray, List.set_cons_zero, List.set_cons_succ, i64_w, i32_w]
          rfl
        refine take_ (i := 3) (N := some 23) (v := ?_) (a' := ?_) #[true, true, true, true, false, false, false, false, false, false, false, false, false] rfl rfl (by kernel_rfl) (fun _ _ _ h => h) (Or.inl ⟨by rfl, ?_⟩) hHeld ?_ ?_
        rotate_left
        · rintro w' ⟨s0, s1, s2⟩
          go_simp
          first | with_reducible rfl | rfl
        rotate_left
        · simp only [Act.put, List.setIfInBounds_toArray, List.set_cons_zero, List.set_cons_succ, i64_w, i32_w]
          rfl
        refine pure_ (i := 4) (N := some 24) (v := ?_) (a' := ?_) #[true, true, true, true, true, false, false, false, false, false, false, false, false] rfl rfl (by kernel_rfl) (fun _ _ _ h => h) (Or.inl ⟨by rfl, ?_⟩) ?_ ?_
        rotate_left
        · intro w'
          go_simp
          first | with_reducible rfl | rfl
        rotate_left
        · simp only [Act.put, List.setIfInBounds_toArray, List.set_cons_zero, List.set_cons_succ, i64_w, i32_w]
          rfl
        refine pure_ (i := 5) (N := some 25) (v := ?_) (a' := ?_) #[true, true, true, true, true, true, false, false, false, false, false, false, false] rfl rfl (by kernel_rfl) (fun _ _ _ h => h) (Or.inl ⟨by rfl, ?_⟩) ?_ ?_
        rotate_left
        · intro w'
          go_simp
          first | with_reducible rfl | rfl
        rotate_left
        · simp only [Act.put, List.setIfInBounds_toArray, List.set_cons_zero, List.set_cons_succ, i64_w, i32_w]
          rfl
        refine pure_ (i := 6) (N := some 26) (v := ?_) (a' := ?_) #[true, true, true, true, true, true, true, false, false, false, false, false, false] rfl rfl (by kernel_rfl) (fun _ _ _ h => h) (Or.inl ⟨by rfl, ?_⟩) ?_ ?_
        rotate_left
        · intro w'
          go_simp
          first | with_reducible rfl | rfl
        rotate_left
        · simp only [Act.put, List.setIfInBounds_toArray, List.set_cons_zero, List.set_cons_succ, i64_w, i32_w]
          rfl
        refine take_ (i := 7) (N := some 27) (v := ?_) (a' := ?_) #[true, true, true, true, true, true, true, true, false, false, false, false, false] rfl rfl (by kernel_rfl) (fun _ _ _ h => h) (Or.inl ⟨by rfl, ?_⟩) hHeld ?_ ?_
        rotate_left
        · rintro w' ⟨s0, s1, s2⟩
          go_simp
          first | with_reducible rfl | rfl
        rotate_left
        · simp only [Act.put, List.setIfInBounds_toArray, List.set_cons_zero, List.set_cons_succ, i64_w, i32_w]
          rfl
        refine pure_ (i := 8) (N := some 28) (v := ?_) (a' := ?_) #[true, true, true, true, true, true, true, true, true, false, false, false, false] rfl rfl (by kernel_rfl) (fun _ _ _ h => h) (Or.inl ⟨by rfl, ?_⟩) ?_ ?_
        rotate_left
        · intro w'
          go_simp
          first | with_reducible rfl | rfl
        rotate_left
        · simp only [Act.put, List.setIfInBounds_toArray, List.set_cons_zero, List.set_cons_succ, i64_w, i32_w]
          rfl
        refine pure_ (i := 9) (N := some 29) (v := ?_) (a' := ?_) #[true, true, true, true, true, true, true, true, true, true, false, false, false] rfl rfl (by kernel_rfl) (fun _ _ _ h => h) (Or.inl ⟨by rfl, ?_⟩) ?_ ?_
        rotate_left
        · intro w'
          go_simp
          first | with_reducible rfl | rfl
        rotate_left
        · simp only [Act.put, List.setIfInBounds_toArray, List.set_cons_zero, List.set_cons_succ, i64_w, i32_w]
          rfl
        refine take_ (i := 10) (N := some 30) (v := ?_) (a' := ?_) #[true, true, true, true, true, true, true, true, true, true, true, false, false] rfl rfl (by kernel_rfl) (fun _ _ _ h => h) (Or.inl ⟨by rfl, ?_⟩) hHeld ?_ ?_
        rotate_left
        · rintro w' ⟨s0, s1, s2⟩
          go_simp
          first | with_reducible rfl | rfl
        rotate_left
        · simp only [Act.put, List.setIfInBounds_toArray, List.set_cons_zero, List.set_cons_succ, i64_w, i32_w]
          rfl
        refine pure_ (i := 11) (N := some 31) (v := (.int .i64 ((now : Int) % p))) (a' := ?_) #[true, true, true, true, true, true, true, true, true, true, true, true, false] rfl rfl (by kernel_rfl) (fun _ _ _ h => h) (Or.inl ⟨by rfl, ?_⟩) ?_ ?_
        · intro w'
          go_simp
          first | done | rw [htm.out] | rw [if_neg hpne, htm.out]
        rotate_left
        · simp only [Act.put, List.setIfInBounds_toArray, List.set_cons_zero, List.set_cons_succ, i64_w, i32_w]
          rfl
        refine pure_ (i := 12) (N := some 32) (v := (.bool false)) (a' := ?_) #[true, true, true, true, true, true, true, true, true, true, true, true, true] rfl rfl (by kernel_rfl) (fun _ _ _ h => h) (Or.inl ⟨by rfl, ?_⟩) ?_ ?_
        · intro w'
          go_simp
          first | done | rw [t1] | simp [hd.out]
        rotate_left
        · simp only [Act.put, List.setIfInBounds_toArray, List.set_cons_zero, List.set_cons_succ, i64_w, i32_w]
          rfl
        refine done_ (by kernel_rfl) ?_
        have HSd := Lib.hid (HS.out.step (Below.refl _ _).drew)
        replace c0 : wr.drew.cell? ⟨g, 0, none⟩ = some (.slice (some ⟨pb, 0, none⟩) ps.length pc) := c0
        replace c1 : wr.drew.cell? ⟨g, 1, none⟩ = some (.int .i64 now) := c1
        clear HS
        generalize wr.drew = wrD at *
        by_cases hkq : k < qs.length
        · have hkq' : (k : Int) < (qs.length : Int) := Int.ofNat_lt.2 hkq
          have tkq : decide (qs.length ≤ k) = false := decide_eq_false (Nat.not_le.2 hkq)
          obtain ⟨ad, rfl, hq1⟩ := (PkAt.step HQ.out HSd.out.below).2 k hkq
          have hdrop := Lib.hid (drop_cons qs k hkq)
          generalize qs.getD k 0 = q at *
          have hk9 : k < 256 := by have := hki.out; omega
          clear hkq
          have hLe := clampI_eq q
          have hLb := clamp_bd q
          rw [← hLe] at hLb
          have hmx : (if 0 < minI q then minI q else 0) = clampI q := rfl
          have hmn : (if (1048576 : Int) < q then (1048576 : Int) else q) = minI q := rfl
          generalize clampI q = J at *
          generalize minI q = J0 at *
          replace hLe := Lib.hid hLe
          have hsum : wrap64 ((now : Int) + J) = (now : Int) + J := wrapIn (by omega)
          replace hLb := Lib.hid hLb
          go_wp2_with fail
          refine start_ (n := 15) (S := fun w' => w'.cell? ⟨g, 1, none⟩ = some (.int .i64 now)) (ds := [14]) #[false, false, false, false, false, false, false, false, false, false, false, false, false, false, false] (by kernel_rfl) rfl rfl c1 (fun hHeld => ?_)
          refine pure_ (i := 0) (N := some 45) (v := ?_) (a' := ?_) #[true, false, false, false, false, false, false, false, false, false, false, false, false, false, false] rfl rfl (by kernel_rfl) (fun _ _ _ h => h) (Or.inl ⟨by rfl, ?_⟩) ?_ ?_
          rotate_left
          · intro w'
            go_simp
            first | with_reducible rfl | rfl
          rotate_left
          · simp only [Act.put, List.setIfInBounds_toArray, List.set_cons_zero, List.set_cons_succ, i64_w, i32_w]
            rfl
          refine pure_ (i := 1) (N := some 46) (v := ?_) (a' := ?_) #[true, true, false, false, false, false, false, false, false, false, false, false, false, false, false] rfl rfl (by kernel_rfl) (fun _ _ _ h => h) (Or.inl ⟨by rfl, ?_⟩) ?_ ?_
          rotate_left
          · intro w'
            go_simp
            first | with_reducible rfl | rfl
          rotate_left
          · simp only [Act.put, List.setIfInBounds_toArray, List.set_cons_zero, List.set_cons_succ, i64_w, i32_w]
            rfl
          refine pure_ (i := 2) (N := some 47) (v := ?_) (a' := ?_) #[true, true, true, false, false, false, false, false, false, false, false, false, false, false, false] rfl rfl (by kernel_rfl) (fun _ _ _ h => h) (Or.inl ⟨by rfl, ?_⟩) ?_ ?_
          rotate_left
          · intro w'
            go_simp
            first | with_reducible rfl | rfl
          rotate_left
          · simp only [Act.put, List.setIfInBounds_toArray, List.set_cons_zero, List.set_cons_succ, i64_w, i32_w]
            rfl
          refine pure_ (i := 3) (N := some 48) (v := ?_) (a' := ?_) #[true, true, true, true, false, false, false, false, false, false, false, false, false, false, false] rfl rfl (by kernel_rfl) (fun _ _ _ h => h) (Or.inl ⟨by rfl, ?_⟩) ?_ ?_
          rotate_left
          · intro w'
            go_simp
            first | with_reducible rfl | rfl
          rotate_left
          · simp only [Act.put, List.setIfInBounds_toArray, List.set_cons_zero, List.set_cons_succ, i64_w, i32_w]
            rfl
          refine pure_ (i := 4) (N := some 49) (v := ?_) (a' := ?_) #[true, true, true, true, true, false, false, false, false, false, false, false, false, false, false] rfl rfl (by kernel_rfl) (fun _ _ _ h => h) (Or.inl ⟨by rfl, ?_⟩) ?_ ?_
          rotate_left
          · intro w'
            go_simp
            first | with_reducible rfl | rfl
          rotate_left
          · simp only [Act.put, List.setIfInBounds_toArray, List.set_cons_zero, List.set_cons_succ, i64_w, i32_w]
            rfl
          refine take_ (i := 5) (N := some 50) (v := ?_) (a' := ?_) #[true, true, true, true, true, true, false, false, false, false, false, false, false, false, false] rfl rfl (by kernel_rfl) (fun _ _ _ h => h) (Or.inl ⟨by rfl, ?_⟩) hHeld ?_ ?_
          rotate_left
          · rintro w' s0
            go_simp
            first | with_reducible rfl | rfl
          rotate_left
          · simp only [Act.put, List.setIfInBounds_toArray, List.set_cons_zero, List.set_cons_succ, i64_w, i32_w]
            rfl
          refine pure_ (i := 6) (N := some 51) (v := ?_) (a' := ?_) #[true, true, true, true, true, true, true, false, false, false, false, false, false, false, false] rfl rfl (by kernel_rfl) (fun _ _ _ h => h) (Or.inl ⟨by rfl, ?_⟩) ?_ ?_
          rotate_left
          · intro w'
            go_simp
            first | with_reducible rfl | rfl
          rotate_left
          · simp only [Act.put, List.setIfInBounds_toArray, List.set_cons_zero, List.set_cons_succ, i64_w, i32_w]
            rfl
          refine pure_ (i := 7) (N := some 52) (v := ?_) (a' := ?_) #[true, true, true, true, true, true, true, true, false, false, false, false, false, false, false] rfl rfl (by kernel_rfl) (fun _ _ _ h => h) (Or.inl ⟨by rfl, ?_⟩) ?_ ?_
          rotate_left
          · intro w'
            go_simp
            first | with_reducible rfl | rfl
          rotate_left
          · simp only [Act.put, List.setIfInBounds_toArray, List.set_cons_zero, List.set_cons_succ, i64_w, i32_w]
            rfl
          refine pure_ (i := 8) (N := some 53) (v := ?_) (a' := ?_) #[true, true, true, true, true, true, true, true, true, false, false, false, false, false, false] rfl rfl (by kernel_rfl) (fun _ _ _ h => h) (Or.inl ⟨by rfl, ?_⟩) ?_ ?_
          rotate_left
          · intro w'
            go_simp
            first | with_reducible rfl | rfl
          rotate_left
          · simp only [Act.put, List.setIfInBounds_toArray, List.set_cons_zero, List.set_cons_succ, i64_w, i32_w]
            rfl
          refine pure_ (i := 9) (N := some 54) (v := ?_) (a' := ?_) #[true, true, true, true, true, true, true, true, true, true, false, false, false, false, false] rfl rfl (by kernel_rfl) (fun _ _ _ h => h) (Or.inl ⟨by rfl, ?_⟩) ?_ ?_
          rotate_left
          · intro w'
            go_simp
            first | with_reducible rfl | rfl
          rotate_left
          · simp only [Act.put, List.setIfInBounds_toArray, List.set_cons_zero, List.set_cons_succ, i64_w, i32_w]
            rfl
          refine take_ (i := 10) (N := some 55) (v := ?_) (a' := ?_) #[true, true, true, true, true, true, true, true, true, true, true, false, false, false, false] rfl rfl (by kernel_rfl) (fun _ _ _ h => h) (Or.inl ⟨by rfl, ?_⟩) hHeld ?_ ?_
          rotate_left
          · rintro w' s0
            go_simp
            first | with_reducible rfl | rfl
          rotate_left
          · simp only [Act.put, List.setIfInBounds_toArray, List.set_cons_zero, List.set_cons_succ, i64_w, i32_w]
            rfl
          refine pure_ (i := 11) (N := some 56) (v := ?_) (a' := ?_) #[true, true, true, true, true, true, true, true, true, true, true, true, false, false, false] rfl rfl (by kernel_rfl) (fun _ _ _ h => h) (Or.inl ⟨by rfl, ?_⟩) ?_ ?_
          rotate_left
          · intro w'
            go_simp
            first | with_reducible rfl | rfl
          rotate_left
          · simp only [Act.put, List.setIfInBounds_toArray, List.set_cons_zero, List.set_cons_succ, i64_w, i32_w]
            rfl
          refine pure_ (i := 12) (N := some 57) (v := ?_) (a' := ?_) #[true, true, true, true, true, true, true, true, true, true, true, true, true, false, false] rfl rfl (by kernel_rfl) (fun _ _ _ h => h) (Or.inl ⟨by rfl, ?_⟩) ?_ ?_
          rotate_left
          · intro w'
            go_simp
            first | with_reducible rfl | rfl
          rotate_left
          · simp only [Act.put, List.setIfInBounds_toArray, List.set_cons_zero, List.set_cons_succ, i64_w, i32_w]
            rfl
          refine pure_ (i := 13) (N := some 58) (v := ?_) (a' := ?_) #[true, true, true, true, true, true, true, true, true, true, true, true, true, true, false] rfl rfl (by kernel_rfl) (fun _ _ _ h => h) (Or.inl ⟨by rfl, ?_⟩) ?_ ?_
          rotate_left
          · intro w'
            go_simp
            first | with_reducible rfl | rfl
          rotate_left
          · simp only [Act.put, List.setIfInBounds_toArray, List.set_cons_zero, List.set_cons_succ, i64_w, i32_w]
            rfl
          refine last_ (i := 14) (N := some 59) #[true, true, true, true, true, true, true, true, true, true, true, true, true, true, true] rfl rfl (by kernel_rfl) (by decide) (fun K hK => ?_)
          refine goes_ Try.func23 (by kernel_rfl) rfl #[.pointer (some ⟨g, 0, none⟩), .agg #[.int .i64 (i : Int), .int .i64 (now : Int), .int .i64 ((now : Int) + J)]] (by rfl) rfl rfl (by (try simp only [List.map_toArray, List.map_cons, List.map_nil]); first | done | rfl) ?_
          refine (put_any (L2 := intA (.slice (some ⟨pb, 0, none⟩) ps.length pc) ps :: L2) (HSd.out.step (Below.refl _ _).drew) (by have := hl9.out; have := hll.out; omega) ⟨(i : Int), (now : Int), (now : Int) + J⟩).mono ?_
          rintro e w2 ⟨v2, rfl, H2⟩
          refine ⟨_, rfl, ?_⟩
          replace H2 := Lib.hid H2
          clear HSd
          refine hK.out _ _ ?_
          clear hK K
          refine norm_ (a' := ?_) ?_ ?_
          rotate_left
          · show Act.put _ (some 59) _ = _
            simp only [Act.put, List.setIfInBounds_toArray, List.set_cons_zero, List.set_cons_succ, i64_w, i32_w]
            rfl
          refine done_ (by kernel_rfl) ?_
          go_wp2_with fail
          go_roundw
          case rel => exact ⟨i + 1, k + 1, v2, _, hip3.out, by have := hki.out; omega, by go_num, rfl, by rw [ins_length]; have := hll.out; omega, by have h5 := hend.out; rw [hdrop.out, rel, if_pos hd.out, show late (q :: qs.drop (k + 1)) = J from hLe.out.symm] at h5; exact h5, H2.out⟩
          case measure => have := hip3.out; simp [intOf]; omega
        · have hkq' : ¬ ((k : Int) < (qs.length : Int)) := fun h => hkq (Int.ofNat_lt.1 h)
          have hdrop := Lib.hid (List.drop_eq_nil_of_le (Nat.not_lt.1 hkq))
          have hdrop2 := Lib.hid (List.drop_eq_nil_of_le (show qs.length ≤ k by omega))
          have hsum : wrap64 (now : Int) = (now : Int) := wrapIn (by omega)
          clear hkq
          go_wp2_with fail
          refine start_ (n := 15) (S := fun w' => w'.cell? ⟨g, 1, none⟩ = some (.int .i64 now)) (ds := [14]) #[false, false, false, false, false, false, false, false, false, false, false, false, false, false, false] (by kernel_rfl) rfl rfl c1 (fun hHeld => ?_)
          refine pure_ (i := 0) (N := some 45) (v := ?_) (a' := ?_) #[true, false, false, false, false, false, false, false, false, false, false, false, false, false, false] rfl rfl (by kernel_rfl) (fun _ _ _ h => h) (Or.inl ⟨by rfl, ?_⟩) ?_ ?_
          rotate_left
          · intro w'
            go_simp
            first | with_reducible rfl | rfl
          rotate_left
          · simp only [Act.put, List.setIfInBounds_toArray, List.set_cons_zero, List.set_cons_succ, i64_w, i32_w]
            rfl
          refine pure_ (i := 1) (N := some 46) (v := ?_) (a' := ?_) #[true, true, false, false, false, false, false, false, false, false, false, false, false, false, false] rfl rfl (by kernel_rfl) (fun _ _ _ h => h) (Or.inl ⟨by rfl, ?_⟩) ?_ ?_
          rotate_left
          · intro w'
            go_simp
            first | with_reducible rfl | rfl
          rotate_left
          · simp only [Act.put, List.setIfInBounds_toArray, List.set_cons_zero, List.set_cons_succ, i64_w, i32_w]
            rfl
          refine pure_ (i := 2) (N := some 47) (v := ?_) (a' := ?_) #[true, true, true, false, false, false, false, false, false, false, false, false, false, false, false] rfl rfl (by kernel_rfl) (fun _ _ _ h => h) (Or.inl ⟨by rfl, ?_⟩) ?_ ?_
          rotate_left
          · intro w'
            go_simp
            first | with_reducible rfl | rfl
          rotate_left
          · simp only [Act.put, List.setIfInBounds_toArray, List.set_cons_zero, List.set_cons_succ, i64_w, i32_w]
            rfl
          refine pure_ (i := 3) (N := some 48) (v := ?_) (a' := ?_) #[true, true, true, true, false, false, false, false, false, false, false, false, false, false, false] rfl rfl (by kernel_rfl) (fun _ _ _ h => h) (Or.inl ⟨by rfl, ?_⟩) ?_ ?_
          rotate_left
          · intro w'
            go_simp
            first | with_reducible rfl | rfl
          rotate_left
          · simp only [Act.put, List.setIfInBounds_toArray, List.set_cons_zero, List.set_cons_succ, i64_w, i32_w]
            rfl
          refine pure_ (i := 4) (N := some 49) (v := ?_) (a' := ?_) #[true, true, true, true, true, false, false, false, false, false, false, false, false, false, false] rfl rfl (by kernel_rfl) (fun _ _ _ h => h) (Or.inl ⟨by rfl, ?_⟩) ?_ ?_
          rotate_left
          · intro w'
            go_simp
            first | with_reducible rfl | rfl
          rotate_left
          · simp only [Act.put, List.setIfInBounds_toArray, List.set_cons_zero, List.set_cons_succ, i64_w, i32_w]
            rfl
          refine take_ (i := 5) (N := some 50) (v := ?_) (a' := ?_) #[true, true, true, true, true, true, false, false, false, false, false, false, false, false, false] rfl rfl (by kernel_rfl) (fun _ _ _ h => h) (Or.inl ⟨by rfl, ?_⟩) hHeld ?_ ?_
          rotate_left
          · rintro w' s0
            go_simp
            first | with_reducible rfl | rfl
          rotate_left
          · simp only [Act.put, List.setIfInBounds_toArray, List.set_cons_zero, List.set_cons_succ, i64_w, i32_w]
            rfl
          refine pure_ (i := 6) (N := some 51) (v := ?_) (a' := ?_) #[true, true, true, true, true, true, true, false, false, false, false, false, false, false, false] rfl rfl (by kernel_rfl) (fun _ _ _ h => h) (Or.inl ⟨by rfl, ?_⟩) ?_ ?_
          rotate_left
          · intro w'
            go_simp
            first | with_reducible rfl | rfl
          rotate_left
          · simp only [Act.put, List.setIfInBounds_toArray, List.set_cons_zero, List.set_cons_succ, i64_w, i32_w]
            rfl
          refine pure_ (i := 7) (N := some 52) (v := ?_) (a' := ?_) #[true, true, true, true, true, true, true, true, false, false, false, false, false, false, false] rfl rfl (by kernel_rfl) (fun _ _ _ h => h) (Or.inl ⟨by rfl, ?_⟩) ?_ ?_
          rotate_left
          · intro w'
            go_simp
            first | with_reducible rfl | rfl
          rotate_left
          · simp only [Act.put, List.setIfInBounds_toArray, List.set_cons_zero, List.set_cons_succ, i64_w, i32_w]
            rfl
          refine pure_ (i := 8) (N := some 53) (v := ?_) (a' := ?_) #[true, true, true, true, true, true, true, true, true, false, false, false, false, false, false] rfl rfl (by kernel_rfl) (fun _ _ _ h => h) (Or.inl ⟨by rfl, ?_⟩) ?_ ?_
          rotate_left
          · intro w'
            go_simp
            first | with_reducible rfl | rfl
          rotate_left
          · simp only [Act.put, List.setIfInBounds_toArray, List.set_cons_zero, List.set_cons_succ, i64_w, i32_w]
            rfl
          refine pure_ (i := 9) (N := some 54) (v := ?_) (a' := ?_) #[true, true, true, true, true, true, true, true, true, true, false, false, false, false, false] rfl rfl (by kernel_rfl) (fun _ _ _ h => h) (Or.inl ⟨by rfl, ?_⟩) ?_ ?_
          rotate_left
          · intro w'
            go_simp
            first | with_reducible rfl | rfl
          rotate_left
          · simp only [Act.put, List.setIfInBounds_toArray, List.set_cons_zero, List.set_cons_succ, i64_w, i32_w]
            rfl
          refine take_ (i := 10) (N := some 55) (v := ?_) (a' := ?_) #[true, true, true, true, true, true, true, true, true, true, true, false, false, false, false] rfl rfl (by kernel_rfl) (fun _ _ _ h => h) (Or.inl ⟨by rfl, ?_⟩) hHeld ?_ ?_
          rotate_left
          · rintro w' s0
            go_simp
            first | with_reducible rfl | rfl
          rotate_left
          · simp only [Act.put, List.setIfInBounds_toArray, List.set_cons_zero, List.set_cons_succ, i64_w, i32_w]
            rfl
          refine pure_ (i := 11) (N := some 56) (v := ?_) (a' := ?_) #[true, true, true, true, true, true, true, true, true, true, true, true, false, false, false] rfl rfl (by kernel_rfl) (fun _ _ _ h => h) (Or.inl ⟨by rfl, ?_⟩) ?_ ?_
          rotate_left
          · intro w'
            go_simp
            first | with_reducible rfl | rfl
          rotate_left
          · simp only [Act.put, List.setIfInBounds_toArray, List.set_cons_zero, List.set_cons_succ, i64_w, i32_w]
            rfl
          refine pure_ (i := 12) (N := some 57) (v := ?_) (a' := ?_) #[true, true, true, true, true, true, true, true, true, true, true, true, true, false, false] rfl rfl (by kernel_rfl) (fun _ _ _ h => h) (Or.inl ⟨by rfl, ?_⟩) ?_ ?_
          rotate_left
          · intro w'
            go_simp
            first | with_reducible rfl | rfl
          rotate_left
          · simp only [Act.put, List.setIfInBounds_toArray, List.set_cons_zero, List.set_cons_succ, i64_w, i32_w]
            rfl
          refine pure_ (i := 13) (N := some 58) (v := ?_) (a' := ?_) #[true, true, true, true, true, true, true, true, true, true, true, true, true, true, false] rfl rfl (by kernel_rfl) (fun _ _ _ h => h) (Or.inl ⟨by rfl, ?_⟩) ?_ ?_
          rotate_left
          · intro w'
            go_simp
            first | with_reducible rfl | rfl
          rotate_left
          · simp only [Act.put, List.setIfInBounds_toArray, List.set_cons_zero, List.set_cons_succ, i64_w, i32_w]
            rfl
          refine last_ (i := 14) (N := some 59) #[true, true, true, true, true, true, true, true, true, true, true, true, true, true, true] rfl rfl (by kernel_rfl) (by decide) (fun K hK => ?_)
          refine goes_ Try.func23 (by kernel_rfl) rfl #[.pointer (some ⟨g, 0, none⟩), .agg #[.int .i64 (i : Int), .int .i64 (now : Int), .int .i64 ((now : Int))]] (by rfl) rfl rfl (by (try simp only [List.map_toArray, List.map_cons, List.map_nil]); first | done | rfl) ?_
          refine (put_any (L2 := intA (.slice (some ⟨pb, 0, none⟩) ps.length pc) ps :: L2) (HSd.out.step (Below.refl _ _).drew) (by have := hl9.out; have := hll.out; omega) ⟨(i : Int), (now : Int), (now : Int)⟩).mono ?_
          rintro e w2 ⟨v2, rfl, H2⟩
          refine ⟨_, rfl, ?_⟩
          replace H2 := Lib.hid H2
          clear HSd
          refine hK.out _ _ ?_
          clear hK K
          refine norm_ (a' := ?_) ?_ ?_
          rotate_left
          · show Act.put _ (some 59) _ = _
            simp only [Act.put, List.setIfInBounds_toArray, List.set_cons_zero, List.set_cons_succ, i64_w, i32_w]
            rfl
          refine done_ (by kernel_rfl) ?_
          go_wp2_with fail
          go_roundw
          case rel => exact ⟨i + 1, k, v2, _, hip3.out, by have := hki.out; omega, by go_num, rfl, by rw [ins_length]; have := hll.out; omega, by have h5 := hend.out; rw [hdrop.out, rel, if_pos hd.out, show (now : Int) + late [] = now by simp [late]] at h5; rw [hdrop.out]; exact h5, H2.out⟩
          case measure => have := hip3.out; simp [intOf]; omega
      · have t1 : ((now : Int) % p != 0) = true := by simp [hd]
        have t2 : ((now : Int) % p == 0) = false := by simp [hd]
        replace hd := Lib.hid hd
        go_wp2_with fail
        refine start_ (n := 13) (S := fun w' => w'.cell? ⟨g, 1, none⟩ = some (.int .i64 now) ∧ w'.cell? ⟨g, 0, none⟩ = some (.slice (some ⟨pb, 0, none⟩) ps.length pc) ∧ w'.cell? ⟨pb, i, none⟩ = some (.int .i64 p)) (ds := []) #[false, false, false, false, false, false, false, false, false, false, false, false, false] (by kernel_rfl) rfl rfl ⟨c1, c0, hcell⟩ (fun hHeld => ?_)
        refine pure_ (i := 0) (N := some 20) (v := ?_) (a' := ?_) #[true, false, false, false, false, false, false, false, false, false, false, false, false] rfl rfl (by kernel_rfl) (fun _ _ _ h => h) (Or.inl ⟨by rfl, ?_⟩) ?_ ?_
        rotate_left
        · intro w'
          go_simp
          first | with_reducible rfl | rfl
        rotate_left
        · simp only [Act.put, List.setIfInBounds_toArray, List.set_cons_zero, List.set_cons_succ, i64_w, i32_w]
          rfl
        refine pure_ (i := 1) (N := some 21) (v := ?_) (a' := ?_) #[true, true, false, false, false, false, false, false, false, false, false, false, false] rfl rfl (by kernel_rfl) (fun _ _ _ h => h) (Or.inl ⟨by rfl, ?_⟩) ?_ ?_
        rotate_left
        · intro w'
          go_simp
          first | with_reducible rfl | rfl
        rotate_left
        · simp only [Act.put, List.setIfInBounds_toArray, List.set_cons_zero, List.set_cons_succ, i64_w, i32_w]
          rfl
        refine pure_ (i := 2) (N := some 22) (v := ?_) (a' := ?_) #[true, true, true, false, false, false, false, false, false, false, false, false, false] rfl rfl (by kernel_rfl) (fun _ _ _ h => h) (Or.inl ⟨by rfl, ?_⟩) ?_ ?_
        rotate_left
        · intro w'
          go_simp
          first | with_reducible rfl | rfl
        rotate_left
        · simp only [Act.put, List.setIfInBounds_toArray, List.set_cons_zero, List.set_cons_succ, i64_w, i32_w]
          rfl
        refine take_ (i := 3) (N := some 23) (v := ?_) (a' := ?_) #[true, true, true, true, false, false, false, false, false, false, false, false, false] rfl rfl (by kernel_rfl) (fun _ _ _ h => h) (Or.inl ⟨by rfl, ?_⟩) hHeld ?_ ?_
        rotate_left
        · rintro w' ⟨s0, s1, s2⟩
          go_simp
          first | with_reducible rfl | rfl
        rotate_left
        · simp only [Act.put, List.setIfInBounds_toArray, List.set_cons_zero, List.set_cons_succ, i64_w, i32_w]
          rfl
        refine pure_ (i := 4) (N := some 24) (v := ?_) (a' := ?_) #[true, true, true, true, true, false, false, false, false, false, false, false, false] rfl rfl (by kernel_rfl) (fun _ _ _ h => h) (Or.inl ⟨by rfl, ?_⟩) ?_ ?_
        rotate_left
        · intro w'
          go_simp
          first | with_reducible rfl | rfl
        rotate_left
        · simp only [Act.put, List.setIfInBounds_toArray, List.set_cons_zero, List.set_cons_succ, i64_w, i32_w]
          rfl
        refine pure_ (i := 5) (N := some 25) (v := ?_) (a' := ?_) #[true, true, true, true, true, true, false, false, false, false, false, false, false] rfl rfl (by kernel_rfl) (fun _ _ _ h => h) (Or.inl ⟨by rfl, ?_⟩) ?_ ?_
        rotate_left
        · intro w'
          go_simp
          first | with_reducible rfl | rfl
        rotate_left
        · simp only [Act.put, List.setIfInBounds_toArray, List.set_cons_zero, List.set_cons_succ, i64_w, i32_w]
          rfl
        refine pure_ (i := 6) (N := some 26) (v := ?_) (a' := ?_) #[true, true, true, true, true, true, true, false, false, false, false, false, false] rfl rfl (by kernel_rfl) (fun _ _ _ h => h) (Or.inl ⟨by rfl, ?_⟩) ?_ ?_
        rotate_left
        · intro w'
          go_simp
          first | with_reducible rfl | rfl
        rotate_left
        · simp only [Act.put, List.setIfInBounds_toArray, List.set_cons_zero, List.set_cons_succ, i64_w, i32_w]
          rfl
        refine take_ (i := 7) (N := some 27) (v := ?_) (a' := ?_) #[true, true, true, true, true, true, true, true, false, false, false, false, false] rfl rfl (by kernel_rfl) (fun _ _ _ h => h) (Or.inl ⟨by rfl, ?_⟩) hHeld ?_ ?_
        rotate_left
        · rintro w' ⟨s0, s1, s2⟩
          go_simp
          first | with_reducible rfl | rfl
        rotate_left
        · simp only [Act.put, List.setIfInBounds_toArray, List.set_cons_zero, List.set_cons_succ, i64_w, i32_w]
          rfl
        refine pure_ (i := 8) (N := some 28) (v := ?_) (a' := ?_) #[true, true, true, true, true, true, true, true, true, false, false, false, false] rfl rfl (by kernel_rfl) (fun _ _ _ h => h) (Or.inl ⟨by rfl, ?_⟩) ?_ ?_
        rotate_left
        · intro w'
          go_simp
          first | with_reducible rfl | rfl
        rotate_left
        · simp only [Act.put, List.setIfInBounds_toArray, List.set_cons_zero, List.set_cons_succ, i64_w, i32_w]
          rfl
        refine pure_ (i := 9) (N := some 29) (v := ?_) (a' := ?_) #[true, true, true, true, true, true, true, true, true, true, false, false, false] rfl rfl (by kernel_rfl) (fun _ _ _ h => h) (Or.inl ⟨by rfl, ?_⟩) ?_ ?_
        rotate_left
        · intro w'
          go_simp
          first | with_reducible rfl | rfl
        rotate_left
        · simp only [Act.put, List.setIfInBounds_toArray, List.set_cons_zero, List.set_cons_succ, i64_w, i32_w]
          rfl
        refine take_ (i := 10) (N := some 30) (v := ?_) (a' := ?_) #[true, true, true, true, true, true, true, true, true, true, true, false, false] rfl rfl (by kernel_rfl) (fun _ _ _ h => h) (Or.inl ⟨by rfl, ?_⟩) hHeld ?_ ?_
        rotate_left
        · rintro w' ⟨s0, s1, s2⟩
          go_simp
          first | with_reducible rfl | rfl
        rotate_left
        · simp only [Act.put, List.setIfInBounds_toArray, List.set_cons_zero, List.set_cons_succ, i64_w, i32_w]
          rfl
        refine pure_ (i := 11) (N := some 31) (v := (.int .i64 ((now : Int) % p))) (a' := ?_) #[true, true, true, true, true, true, true, true, true, true, true, true, false] rfl rfl (by kernel_rfl) (fun _ _ _ h => h) (Or.inl ⟨by rfl, ?_⟩) ?_ ?_
        · intro w'
          go_simp
          first | done | rw [htm.out] | rw [if_neg hpne, htm.out]
        rotate_left
        · simp only [Act.put, List.setIfInBounds_toArray, List.set_cons_zero, List.set_cons_succ, i64_w, i32_w]
          rfl
        refine pure_ (i := 12) (N := some 32) (v := (.bool true)) (a' := ?_) #[true, true, true, true, true, true, true, true, true, true, true, true, true] rfl rfl (by kernel_rfl) (fun _ _ _ h => h) (Or.inl ⟨by rfl, ?_⟩) ?_ ?_
        · intro w'
          go_simp
          first | done | rw [t1] | simp [hd.out]
        rotate_left
        · simp only [Act.put, List.setIfInBounds_toArray, List.set_cons_zero, List.set_cons_succ, i64_w, i32_w]
          rfl
        refine done_ (by kernel_rfl) ?_
        have HSd := Lib.hid (HS.out.step (Below.refl _ _).drew)
        replace c0 : wr.drew.cell? ⟨g, 0, none⟩ = some (.slice (some ⟨pb, 0, none⟩) ps.length pc) := c0
        replace c1 : wr.drew.cell? ⟨g, 1, none⟩ = some (.int .i64 now) := c1
        clear HS
        generalize wr.drew = wrD at *
        go_wp2_with fail
        go_roundw
        case rel => exact ⟨i + 1, k, _, l', hip3.out, Nat.le_succ_of_le hki.out, by go_num, rfl, Nat.le_succ_of_le hll.out, by have h5 := hend.out; rw [rel, if_neg hd.out] at h5; exact h5, HSd.out⟩
        case measure => have := hip3.out; simp [intOf]; omega
    · have e0 : ¬ ((i : Int) < (ps.length : Int)) := fun h => hip (Int.ofNat_lt.1 h)
      obtain rfl : i = ps.length := by omega
      rw [List.drop_length, rel] at hend
      subst hend
      have hRl : (rel now 0 ps qs l).length ≤ 100000 := by have := hl9.out; have := hll.out; have := HK.out.le; omega
      generalize hR : rel now 0 ps qs l = R at *
      replace hR := Lib.hid hR
      have H3 := Lib.hid (waitA_nil _ _ (dueR_nil _ _ HS.out))
      clear HS hi hip hki hll
      go_wp2_with fail
      go_loopw [8, 9, 10] (fun vo vr vi wr => RT2 w0 (L1 ++ refA g (.slice (some ⟨pb, 0, none⟩) ps.length pc) now (.slice A2 R.length c) R :: intA (.slice (some ⟨pb, 0, none⟩) ps.length pc) ps :: L2) now R vo vr vi wr) (fun _ _ vi _ => R.length - (intOf vi).toNat)
      case atStart => exact ⟨0, none, 0, [], none, 0, [], Nat.zero_le _, rfl, rfl, rfl, rfl, rfl, Nat.le_refl _, Nat.le_refl _, H3.out⟩
      case round =>
        obtain ⟨i, Ao, co, D, Ar, cr, E, hi, rfl, rfl, rfl, hD, hE, hDl, hEl, HS⟩ := hrel
        replace HS := Lib.hid HS
        clear H3 c0 c1 c2
        obtain ⟨c0, c1, c2, A3, c3, hA3, hrow⟩ := ref_cells (g := g) (pv := .slice (some ⟨pb, 0, none⟩) ps.length pc) (v := .slice A2 R.length c) (now := now) (l := R) HS.out (by simp)
        clear hA3 A3 c3
        replace hrow := Lib.hid hrow
        replace hD := Lib.hid hD
        replace hE := Lib.hid hE
        by_cases hin : i < R.length
        · have hin' : (i : Int) < (R.length : Int) := Int.ofNat_lt.2 hin
          obtain ⟨y, hy⟩ : ∃ y, R[i]? = some y := ⟨R[i], List.getElem?_eq_getElem hin⟩
          obtain ⟨b, rfl, y0, y1, y2⟩ := row_wait hrow.out rfl i y hy
          have tk : decide (R.length ≤ i) = false := decide_eq_false (Nat.not_le.2 hin)
          have hi9 : i < 100000 := Nat.lt_of_lt_of_le hin hRl
          have hD9 : D.length < 100000 := by omega
          have hE9 : E.length < 100000 := by omega
          have hnx := told_next now R i y hy
          have hin3 := Lib.hid hin
          replace hDl := Lib.hid hDl
          replace hEl := Lib.hid hEl
          clear hy hi hin
          by_cases hya : y.a ≤ (now : Int)
          · obtain ⟨hn1, hn2⟩ := hnx.1 hya
            have ta : decide (y.a ≤ (now : Int)) = true := decide_eq_true hya
            replace hn1 := Lib.hid hn1
            replace hn2 := Lib.hid hn2
            clear hnx
            go_wp2_with fail
            refine start_ (n := 13) (S := fun w' => w'.cell? ⟨g, 1, none⟩ = some (.int .i64 now) ∧ w'.cell? ⟨g, 2, none⟩ = some (.slice (some ⟨b, 0, none⟩) R.length c) ∧ w'.cell? ⟨b, i * 3 + 2, none⟩ = some (.int .i64 y.a)) (ds := []) #[false, false, false, false, false, false, false, false, false, false, false, false, false] (by kernel_rfl) rfl rfl ⟨c1, c2, y2⟩ (fun hHeld => ?_)
            refine pure_ (i := 0) (N := some 69) (v := ?_) (a' := ?_) #[true, false, false, false, false, false, false, false, false, false, false, false, false] rfl rfl (by kernel_rfl) (fun _ _ _ h => h) (Or.inl ⟨by rfl, ?_⟩) ?_ ?_
            rotate_left
            · intro w'
              go_simp
              first | with_reducible rfl | rfl
            rotate_left
            · simp only [Act.put, List.setIfInBounds_toArray, List.set_cons_zero, List.set_cons_succ, i64_w, i32_w]
              rfl
            refine pure_ (i := 1) (N := some 70) (v := ?_) (a' := ?_) #[true, true, false, false, false, false, false, false, false, false, false, false, false] rfl rfl (by kernel_rfl) (fun _ _ _ h => h) (Or.inl ⟨by rfl, ?_⟩) ?_ ?_
            rotate_left
            · intro w'
              go_simp
              first | with_reducible rfl | rfl
            rotate_left
            · simp only [Act.put, List.setIfInBounds_toArray, List.set_cons_zero, List.set_cons_succ, i64_w, i32_w]
              rfl
            refine pure_ (i := 2) (N := some 71) (v := ?_) (a' := ?_) #[true, true, true, false, false, false, false, false, false, false, false, false, false] rfl rfl (by kernel_rfl) (fun _ _ _ h => h) (Or.inl ⟨by rfl, ?_⟩) ?_ ?_
            rotate_left
            · intro w'
              go_simp
              first | with_reducible rfl | rfl
            rotate_left
            · simp only [Act.put, List.setIfInBounds_toArray, List.set_cons_zero, List.set_cons_succ, i64_w, i32_w]
              rfl
            refine take_ (i := 3) (N := some 72) (v := ?_) (a' := ?_) #[true, true, true, true, false, false, false, false, false, false, false, false, false] rfl rfl (by kernel_rfl) (fun _ _ _ h => h) (Or.inl ⟨by rfl, ?_⟩) hHeld ?_ ?_
            rotate_left
            · rintro w' ⟨s0, s1, s2⟩
              go_simp
              first | with_reducible rfl | rfl
            rotate_left
            · simp only [Act.put, List.setIfInBounds_toArray, List.set_cons_zero, List.set_cons_succ, i64_w, i32_w]
              rfl
            refine pure_ (i := 4) (N := some 73) (v := ?_) (a' := ?_) #[true, true, true, true, true, false, false, false, false, false, false, false, false] rfl rfl (by kernel_rfl) (fun _ _ _ h => h) (Or.inl ⟨by rfl, ?_⟩) ?_ ?_
            rotate_left
            · intro w'
              go_simp
              first | with_reducible rfl | rfl
            rotate_left
            · simp only [Act.put, List.setIfInBounds_toArray, List.set_cons_zero, List.set_cons_succ, i64_w, i32_w]
              rfl
            refine pure_ (i := 5) (N := some 74) (v := ?_) (a' := ?_) #[true, true, true, true, true, true, false, false, false, false, false, false, false] rfl rfl (by kernel_rfl) (fun _ _ _ h => h) (Or.inl ⟨by rfl, ?_⟩) ?_ ?_
            rotate_left
            · intro w'
              go_simp
              first | with_reducible rfl | rfl
            rotate_left
            · simp only [Act.put, List.setIfInBounds_toArray, List.set_cons_zero, List.set_cons_succ, i64_w, i32_w]
              rfl
            refine pure_ (i := 6) (N := some 75) (v := ?_) (a' := ?_) #[true, true, true, true, true, true, true, false, false, false, false, false, false] rfl rfl (by kernel_rfl) (fun _ _ _ h => h) (Or.inl ⟨by rfl, ?_⟩) ?_ ?_
            rotate_left
            · intro w'
              go_simp
              first | with_reducible rfl | rfl
            rotate_left
            · simp only [Act.put, List.setIfInBounds_toArray, List.set_cons_zero, List.set_cons_succ, i64_w, i32_w]
              rfl
            refine take_ (i := 7) (N := some 76) (v := ?_) (a' := ?_) #[true, true, true, true, true, true, true, true, false, false, false, false, false] rfl rfl (by kernel_rfl) (fun _ _ _ h => h) (Or.inl ⟨by rfl, ?_⟩) hHeld ?_ ?_
            rotate_left
            · rintro w' ⟨s0, s1, s2⟩
              go_simp
              first | with_reducible rfl | rfl
            rotate_left
            · simp only [Act.put, List.setIfInBounds_toArray, List.set_cons_zero, List.set_cons_succ, i64_w, i32_w]
              rfl
            refine pure_ (i := 8) (N := some 77) (v := ?_) (a' := ?_) #[true, true, true, true, true, true, true, true, true, false, false, false, false] rfl rfl (by kernel_rfl) (fun _ _ _ h => h) (Or.inl ⟨by rfl, ?_⟩) ?_ ?_
            rotate_left
            · intro w'
              go_simp
              first | with_reducible rfl | rfl
            rotate_left
            · simp only [Act.put, List.setIfInBounds_toArray, List.set_cons_zero, List.set_cons_succ, i64_w, i32_w]
              rfl
            refine pure_ (i := 9) (N := some 78) (v := ?_) (a' := ?_) #[true, true, true, true, true, true, true, true, true, true, false, false, false] rfl rfl (by kernel_rfl) (fun _ _ _ h => h) (Or.inl ⟨by rfl, ?_⟩) ?_ ?_
            rotate_left
            · intro w'
              go_simp
              first | with_reducible rfl | rfl
            rotate_left
            · simp only [Act.put, List.setIfInBounds_toArray, List.set_cons_zero, List.set_cons_succ, i64_w, i32_w]
              rfl
            refine pure_ (i := 10) (N := some 79) (v := ?_) (a' := ?_) #[true, true, true, true, true, true, true, true, true, true, true, false, false] rfl rfl (by kernel_rfl) (fun _ _ _ h => h) (Or.inl ⟨by rfl, ?_⟩) ?_ ?_
            rotate_left
            · intro w'
              go_simp
              first | with_reducible rfl | rfl
            rotate_left
            · simp only [Act.put, List.setIfInBounds_toArray, List.set_cons_zero, List.set_cons_succ, i64_w, i32_w]
              rfl
            refine take_ (i := 11) (N := some 80) (v := ?_) (a' := ?_) #[true, true, true, true, true, true, true, true, true, true, true, true, false] rfl rfl (by kernel_rfl) (fun _ _ _ h => h) (Or.inl ⟨by rfl, ?_⟩) hHeld ?_ ?_
            rotate_left
            · rintro w' ⟨s0, s1, s2⟩
              go_simp
              first | with_reducible rfl | rfl
            rotate_left
            · simp only [Act.put, List.setIfInBounds_toArray, List.set_cons_zero, List.set_cons_succ, i64_w, i32_w]
              rfl
            refine pure_ (i := 12) (N := some 81) (v := ?_) (a' := ?_) #[true, true, true, true, true, true, true, true, true, true, true, true, true] rfl rfl (by kernel_rfl) (fun _ _ _ h => h) (Or.inl ⟨by rfl, ?_⟩) ?_ ?_
            rotate_left
            · intro w'
              go_simp
              first | with_reducible rfl | rfl
            rotate_left
            · simp only [Act.put, List.setIfInBounds_toArray, List.set_cons_zero, List.set_cons_succ, i64_w, i32_w]
              rfl
            refine done_ (by kernel_rfl) ?_
            have HSd := Lib.hid (HS.out.step (Below.refl _ _).drew)
            replace c0 : wr.drew.cell? ⟨g, 0, none⟩ = some (.slice (some ⟨pb, 0, none⟩) ps.length pc) := c0
            replace c1 : wr.drew.cell? ⟨g, 1, none⟩ = some (.int .i64 now) := c1
            replace c2 : wr.drew.cell? ⟨g, 2, none⟩ = some (.slice (some ⟨b, 0, none⟩) R.length c) := c2
            replace y0 : wr.drew.cell? ⟨b, i * 3, none⟩ = some (.int .i64 y.t) := y0
            replace y1 : wr.drew.cell? ⟨b, i * 3 + 1, none⟩ = some (.int .i64 y.n) := y1
            replace y2 : wr.drew.cell? ⟨b, i * 3 + 2, none⟩ = some (.int .i64 y.a) := y2
            clear HS
            generalize wr.drew = wrD at *
            have K0 := Lib.hid (Has.due1 (L := [waitA (.slice Ar E.length cr) E] ++ dueR (.slice Ao D.length co) D :: (L1 ++ refA g (.slice (some ⟨pb, 0, none⟩) ps.length pc) now (.slice (some ⟨b, 0, none⟩) R.length c) R :: intA (.slice (some ⟨pb, 0, none⟩) ps.length pc) ps :: L2)) HSd.out (⟨y.t, y.n⟩ : S48))
            go_wp2_with (first | (at_builtin; refine wpList_append_row _ rfl (.tmp 82) (.tmp 91) 35 58 _ 2 16 rfl Try.underlying35 info58 rfl (by decide) (by decide) (.slice Ao D.length co) D.length (D.flatMap enc2) ([(⟨y.t, y.n⟩ : S48)].flatMap enc2) (some ⟨wrD.heap.size, 0, none⟩) 1 1 rfl rfl (flat_one [(⟨y.t, y.n⟩ : S48)]) ?hO ?hD ?len ?go) | fail)
            case hO => exact Has.row K0.out (by simp [dueR])
            case hD => exact Has.row K0.out (by simp [dueR])
            case len => omega
            case go =>
              intro v1 wrDb hrow hg hat
              have K1 := Has.grow (L1 := dueR (.slice (some ⟨wrD.heap.size, 0, none⟩) 1 1) [(⟨y.t, y.n⟩ : S48)] :: [waitA (.slice Ar E.length cr) E]) (L2 := (L1 ++ refA g (.slice (some ⟨pb, 0, none⟩) ps.length pc) now (.slice (some ⟨b, 0, none⟩) R.length c) R :: intA (.slice (some ⟨pb, 0, none⟩) ps.length pc) ps :: L2)) (v := .slice Ao D.length co) K0.out hg hrow (hat.imp id (fun h => by simpa using h))
              replace K1 := (dueR_app v1 D [(⟨y.t, y.n⟩ : S48)]) ▸ K1
              obtain ⟨AwrD, cwrD, rfl, hcwrD⟩ := LRow.slice hrow
              clear hrow hg hat K0
              have H6 := Lib.hid (show Has w0 wrDb (waitA (.slice Ar E.length cr) E :: dueR (.slice AwrD (D ++ [(⟨y.t, y.n⟩ : S48)]).length cwrD) (D ++ [(⟨y.t, y.n⟩ : S48)]) :: (L1 ++ refA g (.slice (some ⟨pb, 0, none⟩) ps.length pc) now (.slice (some ⟨b, 0, none⟩) R.length c) R :: intA (.slice (some ⟨pb, 0, none⟩) ps.length pc) ps :: L2)) from by
                rw [List.length_append]
                exact K1.sub ((List.Sublist.refl _).cons _))
              clear K1
              go_wp2_with fail
              go_roundw
              case rel => exact ⟨i + 1, AwrD, cwrD, (D ++ [(⟨y.t, y.n⟩ : S48)]), Ar, cr, E, hin3.out, by go_num, by rw [List.length_append]; rfl, rfl, by rw [hD.out]; exact hn1.out.symm, by rw [hE.out]; exact hn2.out.symm, by rw [List.length_append]; exact Nat.succ_le_succ hDl.out, Nat.le_succ_of_le hEl.out, H6.out⟩
              case measure => have := hin3.out; clear tk; simp [intOf]; omega
          · obtain ⟨hn1, hn2⟩ := hnx.2 hya
            have ta : decide (y.a ≤ (now : Int)) = false := decide_eq_false hya
            replace hn1 := Lib.hid hn1
            replace hn2 := Lib.hid hn2
            clear hnx
            go_wp2_with fail
            refine start_ (n := 13) (S := fun w' => w'.cell? ⟨g, 1, none⟩ = some (.int .i64 now) ∧ w'.cell? ⟨g, 2, none⟩ = some (.slice (some ⟨b, 0, none⟩) R.length c) ∧ w'.cell? ⟨b, i * 3 + 2, none⟩ = some (.int .i64 y.a)) (ds := []) #[false, false, false, false, false, false, false, false, false, false, false, false, false] (by kernel_rfl) rfl rfl ⟨c1, c2, y2⟩ (fun hHeld => ?_)
            refine pure_ (i := 0) (N := some 69) (v := ?_) (a' := ?_) #[true, false, false, false, false, false, false, false, false, false, false, false, false] rfl rfl (by kernel_rfl) (fun _ _ _ h => h) (Or.inl ⟨by rfl, ?_⟩) ?_ ?_
            rotate_left
            · intro w'
              go_simp
              first | with_reducible rfl | rfl
            rotate_left
            · simp only [Act.put, List.setIfInBounds_toArray, List.set_cons_zero, List.set_cons_succ, i64_w, i32_w]
              rfl
            refine pure_ (i := 1) (N := some 70) (v := ?_) (a' := ?_) #[true, true, false, false, false, false, false, false, false, false, false, false, false] rfl rfl (by kernel_rfl) (fun _ _ _ h => h) (Or.inl ⟨by rfl, ?_⟩) ?_ ?_
            rotate_left
            · intro w'
              go_simp
              first | with_reducible rfl | rfl
            rotate_left
            · simp only [Act.put, List.setIfInBounds_toArray, List.set_cons_zero, List.set_cons_succ, i64_w, i32_w]
              rfl
            refine pure_ (i := 2) (N := some 71) (v := ?_) (a' := ?_) #[true, true, true, false, false, false, false, false, false, false, false, false, false] rfl rfl (by kernel_rfl) (fun _ _ _ h => h) (Or.inl ⟨by rfl, ?_⟩) ?_ ?_
            rotate_left
            · intro w'
              go_simp
              first | with_reducible rfl | rfl
            rotate_left
            · simp only [Act.put, List.setIfInBounds_toArray, List.set_cons_zero, List.set_cons_succ, i64_w, i32_w]
              rfl
            refine take_ (i := 3) (N := some 72) (v := ?_) (a' := ?_) #[true, true, true, true, false, false, false, false, false, false, false, false, false] rfl rfl (by kernel_rfl) (fun _ _ _ h => h) (Or.inl ⟨by rfl, ?_⟩) hHeld ?_ ?_
            rotate_left
            · rintro w' ⟨s0, s1, s2⟩
              go_simp
              first | with_reducible rfl | rfl
            rotate_left
            · simp only [Act.put, List.setIfInBounds_toArray, List.set_cons_zero, List.set_cons_succ, i64_w, i32_w]
              rfl
            refine pure_ (i := 4) (N := some 73) (v := ?_) (a' := ?_) #[true, true, true, true, true, false, false, false, false, false, false, false, false] rfl rfl (by kernel_rfl) (fun _ _ _ h => h) (Or.inl ⟨by rfl, ?_⟩) ?_ ?_
            rotate_left
            · intro w'
              go_simp
              first | with_reducible rfl | rfl
            rotate_left
            · simp only [Act.put, List.setIfInBounds_toArray, List.set_cons_zero, List.set_cons_succ, i64_w, i32_w]
              rfl
            refine pure_ (i := 5) (N := some 74) (v := ?_) (a' := ?_) #[true, true, true, true, true, true, false, false, false, false, false, false, false] rfl rfl (by kernel_rfl) (fun _ _ _ h => h) (Or.inl ⟨by rfl, ?_⟩) ?_ ?_
            rotate_left
            · intro w'
              go_simp
              first | with_reducible rfl | rfl
            rotate_left
            · simp only [Act.put, List.setIfInBounds_toArray, List.set_cons_zero, List.set_cons_succ, i64_w, i32_w]
              rfl
            refine pure_ (i := 6) (N := some 75) (v := ?_) (a' := ?_) #[true, true, true, true, true, true, true, false, false, false, false, false, false] rfl rfl (by kernel_rfl) (fun _ _ _ h => h) (Or.inl ⟨by rfl, ?_⟩) ?_ ?_
            rotate_left
            · intro w'
              go_simp
              first | with_reducible rfl | rfl
            rotate_left
            · simp only [Act.put, List.setIfInBounds_toArray, List.set_cons_zero, List.set_cons_succ, i64_w, i32_w]
              rfl
            refine take_ (i := 7) (N := some 76) (v := ?_) (a' := ?_) #[true, true, true, true, true, true, true, true, false, false, false, false, false] rfl rfl (by kernel_rfl) (fun _ _ _ h => h) (Or.inl ⟨by rfl, ?_⟩) hHeld ?_ ?_
            rotate_left
            · rintro w' ⟨s0, s1, s2⟩
              go_simp
              first | with_reducible rfl | rfl
            rotate_left
            · simp only [Act.put, List.setIfInBounds_toArray, List.set_cons_zero, List.set_cons_succ, i64_w, i32_w]
              rfl
            refine pure_ (i := 8) (N := some 77) (v := ?_) (a' := ?_) #[true, true, true, true, true, true, true, true, true, false, false, false, false] rfl rfl (by kernel_rfl) (fun _ _ _ h => h) (Or.inl ⟨by rfl, ?_⟩) ?_ ?_
            rotate_left
            · intro w'
              go_simp
              first | with_reducible rfl | rfl
            rotate_left
            · simp only [Act.put, List.setIfInBounds_toArray, List.set_cons_zero, List.set_cons_succ, i64_w, i32_w]
              rfl
            refine pure_ (i := 9) (N := some 78) (v := ?_) (a' := ?_) #[true, true, true, true, true, true, true, true, true, true, false, false, false] rfl rfl (by kernel_rfl) (fun _ _ _ h => h) (Or.inl ⟨by rfl, ?_⟩) ?_ ?_
            rotate_left
            · intro w'
              go_simp
              first | with_reducible rfl | rfl
            rotate_left
            · simp only [Act.put, List.setIfInBounds_toArray, List.set_cons_zero, List.set_cons_succ, i64_w, i32_w]
              rfl
            refine pure_ (i := 10) (N := some 79) (v := ?_) (a' := ?_) #[true, true, true, true, true, true, true, true, true, true, true, false, false] rfl rfl (by kernel_rfl) (fun _ _ _ h => h) (Or.inl ⟨by rfl, ?_⟩) ?_ ?_
            rotate_left
            · intro w'
              go_simp
              first | with_reducible rfl | rfl
            rotate_left
            · simp only [Act.put, List.setIfInBounds_toArray, List.set_cons_zero, List.set_cons_succ, i64_w, i32_w]
              rfl
            refine take_ (i := 11) (N := some 80) (v := ?_) (a' := ?_) #[true, true, true, true, true, true, true, true, true, true, true, true, false] rfl rfl (by kernel_rfl) (fun _ _ _ h => h) (Or.inl ⟨by rfl, ?_⟩) hHeld ?_ ?_
            rotate_left
            · rintro w' ⟨s0, s1, s2⟩
              go_simp
              first | with_reducible rfl | rfl
            rotate_left
            · simp only [Act.put, List.setIfInBounds_toArray, List.set_cons_zero, List.set_cons_succ, i64_w, i32_w]
              rfl
            refine pure_ (i := 12) (N := some 81) (v := ?_) (a' := ?_) #[true, true, true, true, true, true, true, true, true, true, true, true, true] rfl rfl (by kernel_rfl) (fun _ _ _ h => h) (Or.inl ⟨by rfl, ?_⟩) ?_ ?_
            rotate_left
            · intro w'
              go_simp
              first | with_reducible rfl | rfl
            rotate_left
            · simp only [Act.put, List.setIfInBounds_toArray, List.set_cons_zero, List.set_cons_succ, i64_w, i32_w]
              rfl
            refine done_ (by kernel_rfl) ?_
            have HSd := Lib.hid (HS.out.step (Below.refl _ _).drew)
            replace c0 : wr.drew.cell? ⟨g, 0, none⟩ = some (.slice (some ⟨pb, 0, none⟩) ps.length pc) := c0
            replace c1 : wr.drew.cell? ⟨g, 1, none⟩ = some (.int .i64 now) := c1
            replace c2 : wr.drew.cell? ⟨g, 2, none⟩ = some (.slice (some ⟨b, 0, none⟩) R.length c) := c2
            replace y0 : wr.drew.cell? ⟨b, i * 3, none⟩ = some (.int .i64 y.t) := y0
            replace y1 : wr.drew.cell? ⟨b, i * 3 + 1, none⟩ = some (.int .i64 y.n) := y1
            replace y2 : wr.drew.cell? ⟨b, i * 3 + 2, none⟩ = some (.int .i64 y.a) := y2
            clear HS
            generalize wr.drew = wrD at *
            have K0 := Lib.hid (Has.wait1 (L := [] ++ waitA (.slice Ar E.length cr) E :: (dueR (.slice Ao D.length co) D :: (L1 ++ refA g (.slice (some ⟨pb, 0, none⟩) ps.length pc) now (.slice (some ⟨b, 0, none⟩) R.length c) R :: intA (.slice (some ⟨pb, 0, none⟩) ps.length pc) ps :: L2))) HSd.out y)
            go_wp2_with (first | (at_builtin; refine wpList_append_row _ rfl (.tmp 93) (.tmp 101) 42 62 _ 3 24 rfl Try.underlying42 info62 rfl (by decide) (by decide) (.slice Ar E.length cr) E.length (E.flatMap encW) ([y].flatMap encW) (some ⟨wrD.heap.size, 0, none⟩) 1 1 rfl rfl (flatW_one [y]) ?hO ?hD ?len ?go) | fail)
            case hO => exact Has.row K0.out (by simp [waitA])
            case hD => exact Has.row K0.out (by simp [waitA])
            case len => omega
            case go =>
              intro v1 wrDb hrow hg hat
              have K1 := Has.grow (L1 := waitA (.slice (some ⟨wrD.heap.size, 0, none⟩) 1 1) [y] :: []) (L2 := (dueR (.slice Ao D.length co) D :: (L1 ++ refA g (.slice (some ⟨pb, 0, none⟩) ps.length pc) now (.slice (some ⟨b, 0, none⟩) R.length c) R :: intA (.slice (some ⟨pb, 0, none⟩) ps.length pc) ps :: L2))) (v := .slice Ar E.length cr) K0.out hg hrow (hat.imp id (fun h => by simpa using h))
              replace K1 := (waitA_app v1 E [y]) ▸ K1
              obtain ⟨AwrD, cwrD, rfl, hcwrD⟩ := LRow.slice hrow
              clear hrow hg hat K0
              have H6 := Lib.hid (show Has w0 wrDb (waitA (.slice AwrD (E ++ [y]).length cwrD) (E ++ [y]) :: (dueR (.slice Ao D.length co) D :: (L1 ++ refA g (.slice (some ⟨pb, 0, none⟩) ps.length pc) now (.slice (some ⟨b, 0, none⟩) R.length c) R :: intA (.slice (some ⟨pb, 0, none⟩) ps.length pc) ps :: L2))) from by
                rw [List.length_append]
                exact K1.sub ((List.Sublist.refl _).cons _))
              clear K1
              go_wp2_with fail
              go_roundw
              case rel => exact ⟨i + 1, Ao, co, D, AwrD, cwrD, E ++ [y], hin3.out, by go_num, rfl, by rw [List.length_append]; rfl, by rw [hD.out]; exact hn1.out.symm, by rw [hE.out]; exact hn2.out.symm, Nat.le_succ_of_le hDl.out, by rw [List.length_append]; exact Nat.succ_le_succ hEl.out, H6.out⟩
              case measure => have := hin3.out; clear tk; simp [intOf]; omega
        · have e1 : ¬ ((i : Int) < (R.length : Int)) := fun h => hin (Int.ofNat_lt.1 h)
          have hie : i = R.length := by omega
          have hD2 : D = (told now R).map W3.due := by rw [hD.out, hie, List.take_length]
          have hE2 : E = left now R := by rw [hE.out, hie, List.take_length]
          have ff := ref_fr (g := g) (pv := .slice (some ⟨pb, 0, none⟩) ps.length pc) (v := .slice A2 R.length c) (now := now) (l := R) HS.out (by simp)
          have K1 := Has.storeRef (L1 := dueR (.slice Ao D.length co) D :: L1) HS.out
          have K2 := Lib.hid (Has.nowRef (L1 := dueR (.slice Ao D.length co) D :: L1) K1 (now + 1))
          have ff2 := ref_fr (g := g) (pv := .slice (some ⟨pb, 0, none⟩) ps.length pc) (v := .slice Ar E.length cr) (now := now) (l := E) K1 (by simp)
          obtain ⟨d0, d1, d2, _⟩ := ref_cells (g := g) (pv := .slice (some ⟨pb, 0, none⟩) ps.length pc) (v := .slice Ar E.length cr) (now := now) (l := E) K1 (by simp)
          have f2 := ff 2
          have f1 := ff2 1
          replace hD2 := Lib.hid hD2
          replace hE2 := Lib.hid hE2
          have hw1 : wrap64 ((now : Int) + 1) = ((now + 1 : Nat) : Int) := wrapIn (by omega)
          clear hi hin hie hDl hEl K1 ff ff2 hD hE
          have hl3 : D.length = (told now (rel now 0 ps qs l)).length := by rw [hD2.out, List.length_map, hR.out]
          have hc1 : (((now + 1 : Nat)) : Int) = (now : Int) + 1 := rfl
          have K3 := K2.out
          rw [hc1] at K3
          replace K3 := Lib.hid K3
          replace hl3 := Lib.hid hl3
          clear K2 hc1
          go_wp2_with fail
          go_ret
          refine ⟨Ao, co, ?_, .slice Ar E.length cr, ?_⟩
          · rw [← hl3.out]
            rfl
          · rw [← hl3.out, show (told now (rel now 0 ps qs l)).map W3.due = D by rw [hR.out]; exact hD2.out.symm, show left now (rel now 0 ps qs l) = E by rw [hR.out]; exact hE2.out.symm]
            exact K3.out
end Go.Proofs.Ytdpfbmhdbnkdaaa.Tm
