/- The walk of crc.table: the table of half bytes, as the plain text has it. -/
import Derived.Test.YtdmgndiglpcpfaaProg
import Derived.Test.YtdmgndiglpcpfaaCrcPlain
import Derived.WalkKit
import Derived.RowKit
import Derived.Below
import Derived.LoopTactic
import Derived.Laws.Rows
import Derived.Lib.Hide
import Derived.KernelRfl
namespace Go.Proofs.Ytdmgndiglpcpfaa.Crc
open Go.RowKit CrcPlain
def lit16 : Array Value := #[.int .i64 0, .int .i64 4129, .int .i64 8258, .int .i64 12387, .int .i64 16516, .int .i64 20645, .int .i64 24774, .int .i64 28903, .int .i64 33032, .int .i64 37161, .int .i64 41290, .int .i64 45419, .int .i64 49548, .int .i64 53677, .int .i64 57806, .int .i64 61935]
theorem tabArr_16 : tabArr 16 = lit16 := by kernel_rfl
set_option maxHeartbeats 400000 in
theorem table_walk (w : World) : Calls Try.prog 19 #[] w fun e w' => e = .returned (.agg (tabArr 16)) ∧ Below w.heap.size w w' := by
  go_enter Try.func19, Try.ntmps19
  go_wp2
  rw [← tabArr_zero]
  have hZ := tabArr_size 0
  obtain ⟨Z, HZ⟩ : ∃ Z, Hid (Z = tabArr 0) := ⟨_, Lib.hid rfl⟩
  rw [← HZ.out] at hZ ⊢
  go_loopw [5] (fun i wr => ∃ (k : Nat) (T : Array Value), k ≤ 16 ∧ i = .int .i64 k ∧ T.size = 16 ∧ Hid (T = tabArr k) ∧ wr = (w.alloc (.cells Z 40)).alloc (.cells T 40)) (fun i _ => 16 - (intOf i).toNat)
  case atStart => exact ⟨0, Z, by omega, rfl, hZ, HZ, rfl⟩
  case round =>
    obtain ⟨k, T, hk, rfl, hT, HT, rfl⟩ := hrel
    by_cases hlt : k < 16
    · go_wp2
      go_loopw [3, 10] (fun n i wr => ∃ j m : Nat, j ≤ 4 ∧ i = .int .i64 j ∧ m < 65536 ∧ Hid (m = dn j (4096 * k)) ∧ n = .int .i64 m ∧ wr = (w.alloc (.cells Z 40)).alloc (.cells T 40)) (fun _ i _ => 4 - (intOf i).toNat)
      case atStart => exact ⟨0, k * 4096, by omega, rfl, by omega, Lib.hid (by simp [dn]; omega), by go_num, rfl⟩
      case round =>
        obtain ⟨j, m, hj, rfl, hm, Hm, rfl, rfl⟩ := hrel
        by_cases hj4 : j < 4
        · obtain ⟨q, hq, Hq⟩ : ∃ q : Nat, q < 65536 ∧ Hid (q = 2 * m % 65536) := ⟨_, by omega, Lib.hid rfl⟩
          have g1 : bits .and .i64 ((m : Int) * 2) 65535 = (q : Int) := by
            rw [show ((m : Int) * 2) = ((2 * m : Nat) : Int) by omega, Hq.out]; exact and_mask_nat _
          by_cases hh : 32768 ≤ m
          · obtain ⟨q2, Hq2⟩ : ∃ q2 : Nat, Hid (q2 = q ^^^ 4129) := ⟨_, Lib.hid rfl⟩
            have g2 : bits .xor .i64 (q : Int) 4129 = (q2 : Int) := by rw [Hq2.out]; exact xor_nat q 4129 hq (by omega)
            have g3 : ((m : Int) / 32768 == 1) = true := by simp; omega
            have fin : q2 = dbl m := by rw [Hq2.out, Hq.out, dbl_hi hh]
            have Hf := Lib.hid fin
            clear fin
            go_wp2
            go_roundw
            case rel => exact ⟨j + 1, q2, by omega, by go_num, by rw [Hf.out]; exact dbl_lt, Lib.hid (by rw [Hf.out, Hm.out]; rfl), rfl, trivial⟩
            case measure => simp [intOf]; omega
          · have g3 : ((m : Int) / 32768 == 1) = false := by simp; omega
            have fin : q = dbl m := by rw [Hq.out, dbl_lo hh]
            have Hf := Lib.hid fin
            clear fin
            go_wp2
            go_roundw
            case rel => exact ⟨j + 1, q, by omega, by go_num, by rw [Hf.out]; exact dbl_lt, Lib.hid (by rw [Hf.out, Hm.out]; rfl), rfl, trivial⟩
            case measure => simp [intOf]; omega
        · obtain rfl : j = 4 := by omega
          obtain ⟨T1, HT1⟩ : ∃ T1, Hid (T1 = tabArr (k + 1)) := ⟨_, Lib.hid rfl⟩
          have g : T.setIfInBounds k (.int .i64 (m : Int)) = T1 := by rw [HT.out, HT1.out, Hm.out]; exact tabArr_set k
          clear Hm
          go_wp2
          go_roundw
          case rel => exact ⟨k + 1, T1, by omega, by go_num, by rw [HT1.out]; exact tabArr_size _, HT1, rfl⟩
          case measure => simp [intOf]; omega
    · obtain rfl : k = 16 := by omega
      have hs1 : T.all (·.oneCell') = true := by rw [HT.out, tabArr_16]; simp [lit16, Value.oneCell']
      have hi : (Try.prog.info? 40).map (·.size) = some T.size := by rw [hT]; kernel_rfl
      have H1 := Lib.hid hs1
      have H2 := Lib.hid hi
      have H3 := Lib.hid hT
      have H4 := Lib.hid hZ
      clear hs1 hi hT hZ
      go_wp2_with (first | (refine wpList_load_row rfl 40 _ rfl (w.heap.size + 1) rfl 40 T (0, 0) _ (heap_alloc2_new _ _ _) Try.underlying40 rfl H2.out ?_) | (refine wpList_store_row rfl 40 _ _ rfl w.heap.size T rfl rfl 40 Z (heap_alloc2_old _ _ _) H2.out (by rw [H4.out, H3.out]) H1.out ?_))
      refine bodyPost_ret (v := .agg T) (results_cell_row (p := 0) (ty := 40) rfl _ _ w.heap.size 40 T (0, 0) _ rfl (setRow_heap _ _ Z T 40 (0, 0) (heap_alloc2_old _ _ _)) Try.underlying40 rfl H2.out) rfl ⟨by rw [HT.out], ?_⟩
      exact (((Below.refl w.heap.size w).alloc (Nat.le_refl _) _).alloc (by simp) _).trans ⟨rfl, rfl, rfl, by simp, fun k hk => setRow_other _ _ _ _ (by omega)⟩
end Go.Proofs.Ytdmgndiglpcpfaa.Crc
