/- ReadyOrders: all that were put are taken, each once, those of greater priority first. -/
import Derived.Test.YtojdbpeaclnmkaaRdOrd
set_option linter.unusedVariables false
set_option linter.unusedSimpArgs false
namespace Go.Proofs.Ytojdbpeaclnmkaa.Rd
open Go Go.RowKit Go.Proofs.YtojdbpeaclnmkaaW.PrintWords Go.Proofs.YtojdbpeaclnmkaaW.PrintLast Go.Proofs.YtojdbpeaclnmkaaW.PrintMore Go.Proofs.Ytojdbpeaclnmkaa Go.Proofs.Ytojdbpeaclnmkaa.Print
attribute [local go_sem] max2_int min2_int max_two min_two
def OrdRel1 (w : World) (g : Nat) (n : Nat) (vn vi : Value) (wr : World) : Prop := ∃ (k : Nat) (M : List S30), k ≤ n ∧ vi = .int .i64 k ∧ vn = .int .i64 M.length ∧ M.length ≤ k ∧ Good M ∧ (∀ j ∈ M, 0 ≤ j.f2 ∧ j.f2 < (k : Int)) ∧ M.Pairwise (fun a b => a.f2 < b.f2) ∧ Sts w wr [(.set g, M)]
def OrdRel2 (w : World) (g lb sb N n : Nat) (all : Bool) (vk : Value) (wr : World) : Prop := ∃ (k : Nat) (m : List S30) (x : S30) (bs : Array Bool), m.length + k = n ∧ vk = .int .i64 k ∧ OrdOk N all m x bs ∧ OrdIs w wr g lb sb m x bs
theorem ord_snoc {M : List S30} {k : Nat} {x0 x1 : Int} (h1 : Good M) (h2 : ∀ j ∈ M, 0 ≤ j.f2 ∧ j.f2 < (k : Int)) (h3 : M.Pairwise (fun a b => a.f2 < b.f2)) (ha : 1 ≤ x1) (hb : x1 ≤ 100) :
    Good (M ++ [(⟨x0, x1, k⟩ : S30)]) ∧ (∀ j ∈ M ++ [(⟨x0, x1, k⟩ : S30)], 0 ≤ j.f2 ∧ j.f2 < ((k + 1 : Nat) : Int)) ∧ (M ++ [(⟨x0, x1, k⟩ : S30)]).Pairwise (fun a b => a.f2 < b.f2) := by
  refine ⟨fun j hj => ?_, fun j hj => ?_, ?_⟩
  · rcases List.mem_append.1 hj with hj | hj
    · exact h1 j hj
    · rw [List.mem_singleton] at hj; subst hj; exact ⟨ha, hb⟩
  · rcases List.mem_append.1 hj with hj | hj
    · have := h2 j hj; omega
    · rw [List.mem_singleton] at hj; subst hj; exact ⟨Int.natCast_nonneg k, by show (k : Int) < _; omega⟩
  · rw [List.pairwise_append]
    refine ⟨h3, List.pairwise_singleton _ _, fun a ha b hb => ?_⟩
    rw [List.mem_singleton] at hb
    subst hb
    exact (h2 a ha).2
theorem ord_more {M : List S30} {k : Nat} (h2 : ∀ j ∈ M, 0 ≤ j.f2 ∧ j.f2 < (k : Int)) : ∀ j ∈ M, 0 ≤ j.f2 ∧ j.f2 < ((k + 1 : Nat) : Int) := fun j hj => by have := h2 j hj; omega
theorem info4 : (Try.prog.info? 4).map (fun i => (i.zero, i.size, i.bytes)) = some (some (.bool false), 1, 1) := by kernel_rfl
theorem made4 (n : Nat) : madeCells (Value.bool false).cells n = Array.replicate n (Value.bool false) := by
  apply Array.ext
  · simp [madeCells]
  · intro i h1 h2
    simp [madeCells, Value.cells, Nat.mod_one]
theorem make50 (n : Nat) (hn : n ≤ 60) (W : World) : Sem.run Try.prog (Instr.makeSlice 50 (.int .i64 n) (.int .i64 n)) W = .ok (.slice (some ⟨W.heap.size, 0, none⟩) n n) (W.alloc (.cells (Array.replicate n (Value.bool false)) 4)) := by
  obtain ⟨i, hi, hzz⟩ := Option.map_eq_some_iff.1 info4
  simp only [Prod.mk.injEq] at hzz
  have := run_make (P := Try.prog) W 50 4 i (.bool false) Try.underlying50 hi hzz.1 .i64 .i64 n n (by omega) (Int.le_refl _) (by rw [hzz.2.2]; omega) (by omega)
  rw [hzz.2.1, Nat.mul_one, Int.toNat_natCast, made4] at this
  exact this
theorem orders_big (A : Option Addr) (c : Nat) (l : List S30) (A' : Option Addr) (n' c' : Nat) (w : World) (hl : 60 < l.length) : Calls Try.prog 4 #[.slice A l.length c, .slice A' n' c'] w fun e w' => e = .returned (.bool true) ∧ Below w.heap.size w w' := by
  have e1 : decide ((60 : Int) < (l.length : Int)) = true := decide_eq_true (by omega)
  clear hl
  have H0 : Sts w w [] := Sts.empty (Below.refl _ _)
  replace H0 := Lib.hid H0
  go_enter Try.func4, Try.ntmps4
  go_wp2_with fail
  refine (newS H0.out).mono ?_
  rintro e w1 ⟨g, rfl, H1⟩
  replace H1 := Lib.hid H1
  go_wp2_with fail
  refine (known_walk _).mono ?_
  rintro e wk ⟨rfl, hb⟩
  have HZ := H1.out.below.trans (hb.mono H1.out.size)
  replace HZ := Lib.hid HZ
  clear hb
  go_wp2_with fail
  go_ret
  exact ⟨rfl, HZ.out⟩
set_option maxRecDepth 100000 in
set_option maxHeartbeats 4000000 in
theorem orders_walk (A : Option Addr) (c : Nat) (l : List S30) (A' : Option Addr) (n' c' : Nat) (w : World) (hl : l.length ≤ 60) (hr : Kd.C k30 w A l.length l) (hn' : (n' : Int) < 9223372036854775808) (hp : ∀ k, k < n' → ∃ ad v, A' = some ad ∧ w.cell? (ad.add k) = some (.int .u8 v) ∧ 0 ≤ v ∧ v < 256) : Calls Try.prog 4 #[.slice A l.length c, .slice A' n' c'] w fun e w' => e = .returned (.bool true) ∧ Below w.heap.size w w' := by
  have e1 : decide ((60 : Int) < (l.length : Int)) = false := decide_eq_false (by omega)
  have H0 : Sts w w [] := Sts.empty (Below.refl _ _)
  replace H0 := Lib.hid H0
  have HR := Lib.hid hr
  have HL := Lib.hid hl
  have HP := Lib.hid hp
  replace hn' := Lib.hid hn'
  clear hr hl hp
  go_enter Try.func4, Try.ntmps4
  go_wp2_with fail
  refine (newS H0.out).mono ?_
  rintro e w1 ⟨g, rfl, H1⟩
  replace H1 := Lib.hid H1
  go_wp2_with fail
  go_loopw [6, 7] (fun vn vi wr => OrdRel1 w g l.length vn vi wr) (fun _ vi _ => l.length - (intOf vi).toNat)
  case atStart => exact ⟨0, [], Nat.zero_le _, rfl, rfl, Nat.le_refl _, (fun j hj => by (cases hj)), (fun j hj => by (cases hj)), List.Pairwise.nil, H1.out⟩
  case round =>
    obtain ⟨k, M, hk, rfl, rfl, hMl, hgood, hin, hinc, HS⟩ := hrel
    replace HS := Lib.hid HS
    replace hgood := Lib.hid hgood
    replace hin := Lib.hid hin
    replace hinc := Lib.hid hinc
    by_cases hlk : k < l.length
    · obtain ⟨ad, rfl, c0, c1, c2, hab⟩ := elemIn HR.out HS.out.below k hlk
      have hkb : k < 60 := Nat.lt_of_lt_of_le hlk HL.out
      have hlk' : (k : Int) < (l.length : Int) := by omega
      have hMb : M.length < 10000 := by omega
      generalize hx : l.getD k z30 = x at *
      replace hx := Lib.hid hx
      by_cases d1 : x.f1 < 1
      · have d2 : True := trivial
        have ho2 : x.f1 < 1 ∨ 100 < x.f1 := by omega
        replace ho2 := Lib.hid ho2
        go_wp2_with fail
        have H4 := HS.out.addBox x.f0 x.f1 (k : Int)
        replace H4 := Lib.hid H4
        refine (putNo H4.out x.f0 x.f1 (k : Int) ho2.out g).mono ?_
        rintro e w4 ⟨rfl, H5⟩
        have H7 := H5.sub (List.sublist_cons_self _ _)
        replace H7 := Lib.hid H7
        clear H5
        go_wp2_with fail
        go_roundw
        case rel => exact ⟨k + 1, M, by omega, by go_num, rfl, by omega, hgood.out, ord_more hin.out, hinc.out, H7.out⟩
        case measure => simp [intOf]; omega
      · by_cases d2 : 100 < x.f1
        · have d3 : True := trivial
          have ho2 : x.f1 < 1 ∨ 100 < x.f1 := by omega
          replace ho2 := Lib.hid ho2
          go_wp2_with fail
          have H4 := HS.out.addBox x.f0 x.f1 (k : Int)
          replace H4 := Lib.hid H4
          refine (putNo H4.out x.f0 x.f1 (k : Int) ho2.out g).mono ?_
          rintro e w4 ⟨rfl, H5⟩
          have H7 := H5.sub (List.sublist_cons_self _ _)
          replace H7 := Lib.hid H7
          clear H5
          go_wp2_with fail
          go_roundw
          case rel => exact ⟨k + 1, M, by omega, by go_num, rfl, by omega, hgood.out, ord_more hin.out, hinc.out, H7.out⟩
          case measure => simp [intOf]; omega
        · have hp1 : 1 ≤ x.f1 := by omega
          have hp2 : x.f1 ≤ 100 := by omega
          obtain ⟨n1, n2, n3⟩ := ord_snoc (x0 := x.f0) hgood.out hin.out hinc.out hp1 hp2
          replace n1 := Lib.hid n1
          replace n2 := Lib.hid n2
          replace n3 := Lib.hid n3
          replace hp1 := Lib.hid hp1
          replace hp2 := Lib.hid hp2
          go_wp2_with fail
          have H4 := HS.out.addBox x.f0 x.f1 (k : Int)
          replace H4 := Lib.hid H4
          refine (putS (L1 := [(boxAt wr.heap.size, [⟨x.f0, x.f1, (k : Int)⟩])]) (L2 := []) H4.out x.f0 x.f1 (k : Int) hp1.out hp2.out hMb).mono ?_
          rintro e w4 ⟨rfl, H5⟩
          have H7 := H5.sub (List.sublist_cons_self _ _)
          have H8 : Sts w w4 [(.set g, M ++ [(⟨x.f0, x.f1, (k : Int)⟩ : S30)])] := H7
          replace H8 := Lib.hid H8
          clear H5 H7
          go_wp2_with fail
          go_roundw
          case rel => exact ⟨k + 1, M ++ [(⟨x.f0, x.f1, (k : Int)⟩ : S30)], by omega, by go_num, by rw [List.length_append]; go_num, by rw [List.length_append]; show M.length + 1 ≤ k + 1; omega, n1.out, n2.out, n3.out, H8.out⟩
          case measure => simp [intOf]; omega
    · have e0 : ¬ ((k : Int) < (l.length : Int)) := by omega
      obtain rfl : k = l.length := by omega
      have hin2 : Hid (OrdOk l.length ((n' : Int) == 0) M ⟨0, 101, -1⟩ (Array.replicate l.length false)) := Lib.hid ⟨hgood.out, by simp, fun j hj => ⟨(hin.out j hj).1, (hin.out j hj).2, by
        have := hin.out j hj
        rw [Array.getElem?_replicate, if_pos (by omega)]⟩, hinc.out, fun j hj => by have := (hgood.out j hj).2; show j.f1 ≤ 101; omega, fun _ j hj he => by have := (hgood.out j hj).2; have he' : j.f1 = 101 := he; omega⟩
      clear hin hinc hgood hk hlk e0
      have hmk := make50 l.length HL.out (wr.alloc (.cells #[.int .i64 0, .int .i64 101, .int .i64 (-1)] 30))
      have HO : Hid (OrdIs w ((wr.alloc (.cells #[.int .i64 0, .int .i64 101, .int .i64 (-1)] 30)).alloc (.cells (Array.replicate l.length (Value.bool false)) 4)) g wr.heap.size (wr.heap.size + 1) M ⟨0, 101, -1⟩ (Array.replicate l.length false)) :=
        Lib.hid (OrdIs.start HS.out (((Below.refl _ _).alloc (Nat.le_refl _) _).alloc (by simp) _) (Nat.le_refl _) (Nat.le_succ _) (Nat.ne_of_lt (Nat.lt_succ_self _)) ((Below.heap_alloc _ _ _ (by simp)).trans (heap_alloc_new wr _)) (by rw [Array.map_replicate, show wr.heap.size + 1 = (wr.alloc (.cells #[.int .i64 0, .int .i64 101, .int .i64 (-1)] 30)).heap.size by simp]; exact heap_alloc_new _ _))
      clear HS
      go_wp2_with fail
      clear hmk
      generalize hW0 : (wr.alloc (.cells #[.int .i64 0, .int .i64 101, .int .i64 (-1)] 30)).alloc (.cells (Array.replicate l.length (Value.bool false)) 4) = W0 at *
      generalize hsb : wr.heap.size + 1 = sb at *
      generalize hlb : wr.heap.size = lb at *
      clear hW0 hsb
      have hal : ((n' : Int) == 0) = true → n' = 0 := fun h => by have := beq_iff_eq.mp h; omega
      generalize ((n' : Int) == 0) = al at *
      go_loopw [12] (fun vi wr => OrdRel2 w g lb sb l.length M.length al vi wr) (fun vi _ => M.length - (intOf vi).toNat)
      case atStart => exact ⟨0, M, ⟨0, 101, -1⟩, _, rfl, rfl, hin2.out, HO.out⟩
      case round =>
        obtain ⟨k, m, x, bs, hk, rfl, hok, HO⟩ := hrel
        replace HO := Lib.hid HO
        have hgood := hok.good
        replace hok := Lib.hid hok
        have hm4 : m.length ≤ 10000 := by have := HL.out; omega
        have hkb : k ≤ 60 := by have := HL.out; omega
        by_cases hlk : k < M.length
        · have hlk' : (k : Int) < (M.length : Int) := by omega
          have hne : m ≠ [] := by
            rintro rfl
            simp at hk
            omega
          have hm0 := mxp_pos hgood hne
          have h0 := places_pos hm0
          have hsub : wrap64 ((M.length : Int) - (k : Int)) = (m.length : Int) := by rw [wrapIn (by omega)]; omega
          clear hne hgood
          replace hm4 := Lib.hid hm4
          rcases Bool.eq_false_or_eq_true al with hal1 | hal1
          · subst hal1
            have hn0 : n' = 0 := hal rfl
            have e7 : ¬ ((k : Int) < (n' : Int)) := by omega
            replace hn0 := Lib.hid hn0
            clear hal
            have hnx := hok.out.next (0) (fun _ => rfl) h0
            obtain ⟨q, hq, hqN, hqb, hpr, hfi, hnext⟩ := hnx
            have hlen2 : (m.eraseIdx (pickPlace m (0))).length + (k + 1) = M.length := by rw [List.length_eraseIdx_of_lt (pick_spec m (0) h0).2.1]; omega
            have hT : ∀ W, OrdIs w W g lb sb m x bs → Calls Try.prog 14 #[.pointer (some ⟨g, 0, none⟩), .int .i64 0, .int .i64 (0)] W fun e w' => e = .returned (.tuple #[.agg #[.int .i64 (m.getD (pickPlace m (0)) z30).f0, .int .i64 (m.getD (pickPlace m (0)) z30).f1, .int .i64 (m.getD (pickPlace m (0)) z30).f2], .bool true]) ∧ OrdIs w w' g lb sb (m.eraseIdx (pickPlace m (0))) x bs := fun W h => h.take hm4 0 (0) h0 hm0
            generalize hgx : m.getD (pickPlace m (0)) z30 = y at *
            generalize m.eraseIdx (pickPlace m (0)) = me at *
            obtain ⟨x0, x1, x2⟩ := y
            obtain rfl : x2 = (q : Int) := hq
            dsimp only at hT hpr hfi
            clear hgx h0 hm0
            replace hnext := Lib.hid hnext
            replace hqb := Lib.hid hqb
            replace hlen2 := Lib.hid hlen2
            replace hT := Lib.hid hT
            have t1 : decide ((q : Int) < 0) = false := decide_eq_false (by omega)
            have t2 : decide ((l.length : Int) ≤ (q : Int)) = false := decide_eq_false (by omega)
            have t2n : decide (l.length ≤ q) = false := decide_eq_false (by omega)
            have t3 : decide (x.f1 < x1) = false := decide_eq_false (by omega)
            have hq60 : (q : Int) < (l.length : Int) := by omega
            replace hk := Lib.hid hk
            rcases Decidable.em (x1 = x.f1) with hxx | hxx
            · have t4 : (x1 == x.f1) = true := beq_iff_eq.mpr hxx
              have t5 : decide ((q : Int) < x.f2) = false := decide_eq_false (by have := hfi rfl hxx; omega)
              replace hxx := Lib.hid hxx
              clear hfi
              go_wp2_with fail
              replace e7 := Lib.hid e7
              refine (HO.out.all hm4).mono ?_
              rintro e w3 ⟨A3, c3, rfl, HO3⟩
              replace HO3 := Lib.hid HO3
              go_wp2_with fail
              refine (hT.out _ HO3.out).mono ?_
              rintro e w4 ⟨rfl, HO4⟩
              have HO5 := HO4.step ((Below.refl _ _).alloc (Nat.le_refl _) (.cells #[.int .i64 x0, .int .i64 x1, .int .i64 (q : Int)] 30))
              have hJ := heap_alloc_new w4 (.cells #[.int .i64 x0, .int .i64 x1, .int .i64 (q : Int)] 30)
              have hsne : w4.heap.size ≠ sb := by have := blk_lt HO4.seen; omega
              obtain ⟨a0, a1, a2, a3⟩ := HO5.lastAt
              obtain ⟨s0, s1⟩ := HO5.seenAt hqb.out
              have j0 : _ = some (Value.int .i64 x0) := (blk_cell hJ 0).trans rfl
              have j1 : _ = some (Value.int .i64 x1) := (blk_cell hJ 1).trans rfl
              have j2 : _ = some (Value.int .i64 (q : Int)) := (blk_cell hJ 2).trans rfl
              have HO6 := HO5.mark q
              obtain ⟨b0, b1, b2, b3⟩ := HO6.lastAt
              have hJ6 := (Below.heap_setCell (w4.alloc (.cells #[.int .i64 x0, .int .i64 x1, .int .i64 (q : Int)] 30)) ⟨sb, q, none⟩ (.bool true) w4.heap.size hsne).trans hJ
              have i0 : _ = some (Value.int .i64 x0) := (blk_cell hJ6 0).trans rfl
              have i1 : _ = some (Value.int .i64 x1) := (blk_cell hJ6 1).trans rfl
              have i2 : _ = some (Value.int .i64 (q : Int)) := (blk_cell hJ6 2).trans rfl
              have HO7 := HO6.put x0 x1 (q : Int)
              replace HO7 := Lib.hid HO7
              replace hJ := Lib.hid hJ
              replace hJ6 := Lib.hid hJ6
              clear HO4 HO5 HO6
              replace hsub := Lib.hid hsub
              replace hlk' := Lib.hid hlk'
              go_wp2_with fail
              go_roundw
              case rel => exact ⟨k + 1, me, ⟨x0, x1, q⟩, _, hlen2.out, by go_num, hnext.out, HO7.out⟩
              case measure => simp [intOf]; omega
            · have t4 : (x1 == x.f1) = false := beq_eq_false_iff_ne.mpr hxx
              replace hxx := Lib.hid hxx
              clear hfi
              go_wp2_with fail
              replace e7 := Lib.hid e7
              refine (HO.out.all hm4).mono ?_
              rintro e w3 ⟨A3, c3, rfl, HO3⟩
              replace HO3 := Lib.hid HO3
              go_wp2_with fail
              refine (hT.out _ HO3.out).mono ?_
              rintro e w4 ⟨rfl, HO4⟩
              have HO5 := HO4.step ((Below.refl _ _).alloc (Nat.le_refl _) (.cells #[.int .i64 x0, .int .i64 x1, .int .i64 (q : Int)] 30))
              have hJ := heap_alloc_new w4 (.cells #[.int .i64 x0, .int .i64 x1, .int .i64 (q : Int)] 30)
              have hsne : w4.heap.size ≠ sb := by have := blk_lt HO4.seen; omega
              obtain ⟨a0, a1, a2, a3⟩ := HO5.lastAt
              obtain ⟨s0, s1⟩ := HO5.seenAt hqb.out
              have j0 : _ = some (Value.int .i64 x0) := (blk_cell hJ 0).trans rfl
              have j1 : _ = some (Value.int .i64 x1) := (blk_cell hJ 1).trans rfl
              have j2 : _ = some (Value.int .i64 (q : Int)) := (blk_cell hJ 2).trans rfl
              have HO6 := HO5.mark q
              obtain ⟨b0, b1, b2, b3⟩ := HO6.lastAt
              have hJ6 := (Below.heap_setCell (w4.alloc (.cells #[.int .i64 x0, .int .i64 x1, .int .i64 (q : Int)] 30)) ⟨sb, q, none⟩ (.bool true) w4.heap.size hsne).trans hJ
              have i0 : _ = some (Value.int .i64 x0) := (blk_cell hJ6 0).trans rfl
              have i1 : _ = some (Value.int .i64 x1) := (blk_cell hJ6 1).trans rfl
              have i2 : _ = some (Value.int .i64 (q : Int)) := (blk_cell hJ6 2).trans rfl
              have HO7 := HO6.put x0 x1 (q : Int)
              replace HO7 := Lib.hid HO7
              replace hJ := Lib.hid hJ
              replace hJ6 := Lib.hid hJ6
              clear HO4 HO5 HO6
              replace hsub := Lib.hid hsub
              replace hlk' := Lib.hid hlk'
              go_wp2_with fail
              go_roundw
              case rel => exact ⟨k + 1, me, ⟨x0, x1, q⟩, _, hlen2.out, by go_num, hnext.out, HO7.out⟩
              case measure => simp [intOf]; omega
          · subst hal1
            by_cases hkp : k < n'
            · have e7 : (k : Int) < (n' : Int) := by omega
              obtain ⟨ad', v, hA', hcell, hv0, hv1⟩ := HP.out k hkp
              subst hA'
              have hblk : (ad'.add k).block < w.heap.size := World.block_lt_of_cell? w _ hcell
              have hcell2 := (HO.out.below.cell hblk).trans hcell
              have hwv : wrap64 v = v := wrapIn (by omega)
              have hnx := hok.out.next (v) (fun h => by cases h) h0
              obtain ⟨q, hq, hqN, hqb, hpr, hfi, hnext⟩ := hnx
              have hlen2 : (m.eraseIdx (pickPlace m (v))).length + (k + 1) = M.length := by rw [List.length_eraseIdx_of_lt (pick_spec m (v) h0).2.1]; omega
              have hT : ∀ W, OrdIs w W g lb sb m x bs → Calls Try.prog 14 #[.pointer (some ⟨g, 0, none⟩), .int .i64 0, .int .i64 (v)] W fun e w' => e = .returned (.tuple #[.agg #[.int .i64 (m.getD (pickPlace m (v)) z30).f0, .int .i64 (m.getD (pickPlace m (v)) z30).f1, .int .i64 (m.getD (pickPlace m (v)) z30).f2], .bool true]) ∧ OrdIs w w' g lb sb (m.eraseIdx (pickPlace m (v))) x bs := fun W h => h.take hm4 0 (v) h0 hm0
              generalize hgx : m.getD (pickPlace m (v)) z30 = y at *
              generalize m.eraseIdx (pickPlace m (v)) = me at *
              obtain ⟨x0, x1, x2⟩ := y
              obtain rfl : x2 = (q : Int) := hq
              dsimp only at hT hpr hfi
              clear hgx h0 hm0
              replace hnext := Lib.hid hnext
              replace hqb := Lib.hid hqb
              replace hlen2 := Lib.hid hlen2
              replace hT := Lib.hid hT
              have t1 : decide ((q : Int) < 0) = false := decide_eq_false (by omega)
              have t2 : decide ((l.length : Int) ≤ (q : Int)) = false := decide_eq_false (by omega)
              have t2n : decide (l.length ≤ q) = false := decide_eq_false (by omega)
              have t3 : decide (x.f1 < x1) = false := decide_eq_false (by omega)
              have hq60 : (q : Int) < (l.length : Int) := by omega
              replace hk := Lib.hid hk
              clear hfi hal
              go_wp2_with fail
              replace e7 := Lib.hid e7
              refine (HO.out.all hm4).mono ?_
              rintro e w3 ⟨A3, c3, rfl, HO3⟩
              replace HO3 := Lib.hid HO3
              go_wp2_with fail
              refine (hT.out _ HO3.out).mono ?_
              rintro e w4 ⟨rfl, HO4⟩
              have HO5 := HO4.step ((Below.refl _ _).alloc (Nat.le_refl _) (.cells #[.int .i64 x0, .int .i64 x1, .int .i64 (q : Int)] 30))
              have hJ := heap_alloc_new w4 (.cells #[.int .i64 x0, .int .i64 x1, .int .i64 (q : Int)] 30)
              have hsne : w4.heap.size ≠ sb := by have := blk_lt HO4.seen; omega
              obtain ⟨a0, a1, a2, a3⟩ := HO5.lastAt
              obtain ⟨s0, s1⟩ := HO5.seenAt hqb.out
              have j0 : _ = some (Value.int .i64 x0) := (blk_cell hJ 0).trans rfl
              have j1 : _ = some (Value.int .i64 x1) := (blk_cell hJ 1).trans rfl
              have j2 : _ = some (Value.int .i64 (q : Int)) := (blk_cell hJ 2).trans rfl
              have HO6 := HO5.mark q
              obtain ⟨b0, b1, b2, b3⟩ := HO6.lastAt
              have hJ6 := (Below.heap_setCell (w4.alloc (.cells #[.int .i64 x0, .int .i64 x1, .int .i64 (q : Int)] 30)) ⟨sb, q, none⟩ (.bool true) w4.heap.size hsne).trans hJ
              have i0 : _ = some (Value.int .i64 x0) := (blk_cell hJ6 0).trans rfl
              have i1 : _ = some (Value.int .i64 x1) := (blk_cell hJ6 1).trans rfl
              have i2 : _ = some (Value.int .i64 (q : Int)) := (blk_cell hJ6 2).trans rfl
              have HO7 := HO6.put x0 x1 (q : Int)
              replace HO7 := Lib.hid HO7
              replace hJ := Lib.hid hJ
              replace hJ6 := Lib.hid hJ6
              clear HO4 HO5 HO6
              replace hsub := Lib.hid hsub
              replace hlk' := Lib.hid hlk'
              go_wp2_with fail
              go_roundw
              case rel => exact ⟨k + 1, me, ⟨x0, x1, q⟩, _, hlen2.out, by go_num, hnext.out, HO7.out⟩
              case measure => simp [intOf]; omega
            · have e7 : ¬ ((k : Int) < (n' : Int)) := by omega
              have hnx := hok.out.next (0) (fun h => by cases h) h0
              obtain ⟨q, hq, hqN, hqb, hpr, hfi, hnext⟩ := hnx
              have hlen2 : (m.eraseIdx (pickPlace m (0))).length + (k + 1) = M.length := by rw [List.length_eraseIdx_of_lt (pick_spec m (0) h0).2.1]; omega
              have hT : ∀ W, OrdIs w W g lb sb m x bs → Calls Try.prog 14 #[.pointer (some ⟨g, 0, none⟩), .int .i64 0, .int .i64 (0)] W fun e w' => e = .returned (.tuple #[.agg #[.int .i64 (m.getD (pickPlace m (0)) z30).f0, .int .i64 (m.getD (pickPlace m (0)) z30).f1, .int .i64 (m.getD (pickPlace m (0)) z30).f2], .bool true]) ∧ OrdIs w w' g lb sb (m.eraseIdx (pickPlace m (0))) x bs := fun W h => h.take hm4 0 (0) h0 hm0
              generalize hgx : m.getD (pickPlace m (0)) z30 = y at *
              generalize m.eraseIdx (pickPlace m (0)) = me at *
              obtain ⟨x0, x1, x2⟩ := y
              obtain rfl : x2 = (q : Int) := hq
              dsimp only at hT hpr hfi
              clear hgx h0 hm0
              replace hnext := Lib.hid hnext
              replace hqb := Lib.hid hqb
              replace hlen2 := Lib.hid hlen2
              replace hT := Lib.hid hT
              have t1 : decide ((q : Int) < 0) = false := decide_eq_false (by omega)
              have t2 : decide ((l.length : Int) ≤ (q : Int)) = false := decide_eq_false (by omega)
              have t2n : decide (l.length ≤ q) = false := decide_eq_false (by omega)
              have t3 : decide (x.f1 < x1) = false := decide_eq_false (by omega)
              have hq60 : (q : Int) < (l.length : Int) := by omega
              replace hk := Lib.hid hk
              clear hfi hal
              go_wp2_with fail
              replace e7 := Lib.hid e7
              refine (HO.out.all hm4).mono ?_
              rintro e w3 ⟨A3, c3, rfl, HO3⟩
              replace HO3 := Lib.hid HO3
              go_wp2_with fail
              refine (hT.out _ HO3.out).mono ?_
              rintro e w4 ⟨rfl, HO4⟩
              have HO5 := HO4.step ((Below.refl _ _).alloc (Nat.le_refl _) (.cells #[.int .i64 x0, .int .i64 x1, .int .i64 (q : Int)] 30))
              have hJ := heap_alloc_new w4 (.cells #[.int .i64 x0, .int .i64 x1, .int .i64 (q : Int)] 30)
              have hsne : w4.heap.size ≠ sb := by have := blk_lt HO4.seen; omega
              obtain ⟨a0, a1, a2, a3⟩ := HO5.lastAt
              obtain ⟨s0, s1⟩ := HO5.seenAt hqb.out
              have j0 : _ = some (Value.int .i64 x0) := (blk_cell hJ 0).trans rfl
              have j1 : _ = some (Value.int .i64 x1) := (blk_cell hJ 1).trans rfl
              have j2 : _ = some (Value.int .i64 (q : Int)) := (blk_cell hJ 2).trans rfl
              have HO6 := HO5.mark q
              obtain ⟨b0, b1, b2, b3⟩ := HO6.lastAt
              have hJ6 := (Below.heap_setCell (w4.alloc (.cells #[.int .i64 x0, .int .i64 x1, .int .i64 (q : Int)] 30)) ⟨sb, q, none⟩ (.bool true) w4.heap.size hsne).trans hJ
              have i0 : _ = some (Value.int .i64 x0) := (blk_cell hJ6 0).trans rfl
              have i1 : _ = some (Value.int .i64 x1) := (blk_cell hJ6 1).trans rfl
              have i2 : _ = some (Value.int .i64 (q : Int)) := (blk_cell hJ6 2).trans rfl
              have HO7 := HO6.put x0 x1 (q : Int)
              replace HO7 := Lib.hid HO7
              replace hJ := Lib.hid hJ
              replace hJ6 := Lib.hid hJ6
              clear HO4 HO5 HO6
              replace hsub := Lib.hid hsub
              replace hlk' := Lib.hid hlk'
              go_wp2_with fail
              go_roundw
              case rel => exact ⟨k + 1, me, ⟨x0, x1, q⟩, _, hlen2.out, by go_num, hnext.out, HO7.out⟩
              case measure => simp [intOf]; omega
        · have e0 : ¬ ((k : Int) < (M.length : Int)) := by omega
          obtain rfl : m = [] := List.eq_nil_of_length_eq_zero (by omega)
          have HS := HO.out.takeNo
          replace HS := Lib.hid HS
          clear HO
          go_wp2_with fail
          refine (takeNoS (L1 := []) (L2 := []) HS.out (by decide) 0 0 (.inr (by decide))).mono ?_
          rintro e w5 ⟨rfl, H5⟩
          have H6 := (H5.addBox 0 0 0).sub (List.sublist_cons_self _ _)
          replace H6 := Lib.hid H6
          clear H5
          go_wp2_with fail
          refine (bestS (L1 := []) (L2 := []) (l := []) H6.out (by decide)).mono ?_
          rintro e w6 ⟨rfl, H7⟩
          have hz : mxp ([] : List S30) = 0 := rfl
          rw [hz]
          clear hz
          replace H7 := Lib.hid H7
          go_wp2_with fail
          refine (allS (L1 := []) (L2 := []) (l := []) H7.out (by decide)).mono ?_
          rintro e w8 ⟨A8, c8, hc8, rfl, H8⟩
          replace H8 := Lib.hid H8
          go_wp2_with fail
          refine (known_walk _).mono ?_
          rintro e wk ⟨rfl, hb⟩
          have HZ := H8.out.below.trans (hb.mono H8.out.size)
          replace HZ := Lib.hid HZ
          clear hb
          go_wp2_with fail
          go_ret
          exact ⟨rfl, HZ.out⟩
theorem orders_any (A : Option Addr) (c : Nat) (l : List S30) (A' : Option Addr) (n' c' : Nat) (w : World) (hr : Kd.C k30 w A l.length l) (hn' : (n' : Int) < 9223372036854775808) (hp : ∀ k, k < n' → ∃ ad v, A' = some ad ∧ w.cell? (ad.add k) = some (.int .u8 v) ∧ 0 ≤ v ∧ v < 256) : Calls Try.prog 4 #[.slice A l.length c, .slice A' n' c'] w fun e w' => e = .returned (.bool true) ∧ Below w.heap.size w w' := by
  by_cases h : 60 < l.length
  · exact orders_big A c l A' n' c' w h
  · exact orders_walk A c l A' n' c' w (by omega) hr hn' hp
end Go.Proofs.Ytojdbpeaclnmkaa.Rd
