/- The walk of crc.On: for every sum and every string the call returns the sum that goes on as the plain text has it, and turns nothing that was there. -/
import Derived.Test.YtdmgndiglpcpfaaCrcTable
import Derived.Lib.ConvBytes
namespace Go.Proofs.Ytdmgndiglpcpfaa.Crc
open Go.RowKit CrcPlain
theorem ret_int {k : IntKind} {a b : Int} (h : a = b) : Ending.returned (.int k a) = .returned (.int k b) := by rw [h]
/-- A whole row stored into a block of the call's own: what is left of the world is facts. -/
theorem wpList_store_row_at {P : Program} {ops : Array Oper} {rest : List Oper} {o : Oper} {a : Act} {w0 w : World} {B : Nat} {Q : Exit → Act → World → Prop} (hgd : o.guard = none) (ty : TypeId) (x y : Operand) (ho : o.op = .store ty x y)
    (g : Nat) (cells : Array Value) (hx : a.eval x = .pointer (some ⟨g, 0, none⟩)) (hy : a.eval y = .agg cells)
    (t : TypeId) (old : Array Value) (hg : w.heap[g]? = some (.cells old t (0, 0))) (hi : (P.info? ty).map (·.size) = some cells.size)
    (hold : old.size = cells.size) (h1 : cells.all (·.oneCell') = true) (hB : Below B w0 w) (hle : B ≤ g)
    (h : ∀ W, W.heap[g]? = some (.cells cells t (0, 0)) → Below B w0 W → W.heap.size = w.heap.size → (∀ k, k ≠ g → W.heap[k]? = w.heap[k]?) → wpList P ops Q rest (a.put o.dst undef) W) : wpList P ops Q (o :: rest) a w :=
  wpList_store_row hgd ty x y ho g cells hx hy t old hg hi hold h1
    (h _ (setRow_heap _ _ _ _ _ _ hg) (hB.trans ⟨rfl, rfl, rfl, by simp, fun k hk => setRow_other _ _ _ _ (by omega)⟩) (by simp) (fun k hk => setRow_other _ _ _ _ hk))

set_option maxHeartbeats 400000 in
theorem on_walk (a : Int) (s : ByteArray) (w : World) (hs : s.size ≤ 9223372036854775807) :
    Calls Try.prog 15 #[.int .i64 a, .string s] w fun e w' => e = .returned (.int .i64 (crcOn a s)) ∧ Below w.heap.size w w' := by
  have hconv : ∀ W : World, (convert 9 32 (.string s)).run Try.prog W = .ok (.slice (some ⟨W.heap.size, 0, none⟩) s.size (grownCap W s.size 0 5)) (Lib.bytesWorld W 5 s) := fun W => Lib.run_convert_string_bytes W 9 32 5 s Try.underlying9 Try.underlying32 Try.underlying5
  have hm := and_mask a
  obtain ⟨n0, hn0, Hn0⟩ : ∃ n0 : Nat, n0 < 65536 ∧ Hid (n0 = (a % 65536).toNat) := ⟨_, by omega, Lib.hid rfl⟩
  rw [show a % 65536 = (n0 : Int) by rw [Hn0.out]; omega] at hm
  have Hc := Lib.hid hconv
  clear hconv
  go_enter Try.func15, Try.ntmps15
  go_wp2_with fail
  refine (table_walk _).mono ?_
  rintro e w1 ⟨rfl, hb⟩
  obtain ⟨T, HT⟩ : ∃ T, Hid (T = tabArr 16) := ⟨_, Lib.hid rfl⟩
  rw [← HT.out]
  have H1 : Hid (T.all (·.oneCell') = true) := Lib.hid (by rw [HT.out, tabArr_16]; simp [lit16, Value.oneCell'])
  have H2 : Hid ((Try.prog.info? 40).map (·.size) = some T.size) := Lib.hid (by rw [HT.out, tabArr_size]; kernel_rfl)
  have H3 : Hid (T.size = 16) := Lib.hid (by rw [HT.out, tabArr_size])
  go_wp2_with (
    refine wpList_store_row_at rfl 40 _ _ rfl w1.heap.size T rfl rfl 40 _ (heap_alloc_new _ _) H2.out (by rw [H3.out]; rfl) H1.out (hb.alloc hb.size _) hb.size ?_
    intro W gT gB gS _
    replace gT := Lib.hid gT
    replace gS := Lib.hid gS
    obtain ⟨V, hV, vB, vT, vC⟩ : ∃ V, (convert 9 32 (.string s)).run Try.prog W = .ok (.slice (some ⟨W.heap.size, 0, none⟩) s.size (grownCap W s.size 0 5)) V ∧ Below w.heap.size w V ∧
        (∀ j, j < 16 → V.cell? ⟨w1.heap.size, j, none⟩ = some (.int .i64 ((f4 (4096 * j) : Nat) : Int))) ∧ (∀ j, j < s.size → V.cell? ⟨W.heap.size, j, none⟩ = some (.int .u8 (((nats s).getD j 0 : Nat) : Int))) := by
      have hlt : w1.heap.size < W.heap.size := by have := gS.out; simp at this; omega
      refine ⟨_, Hc.out W, ?_, fun j hj => ?_, fun j hj => ?_⟩
      · exact gB.trans ⟨rfl, rfl, rfl, by rw [Lib.bytesWorld_size]; omega, fun k hk => Lib.bytesWorld_at_old _ _ _ _ (by have := hb.size; omega)⟩
      · rw [Lib.bytesWorld_old W 5 s ⟨w1.heap.size, j, none⟩ hlt, cell_of_row W w1.heap.size j T 40 (0, 0) gT.out, HT.out]
        exact tabArr_get j hj
      · rw [Lib.bytesWorld_cell W 5 s j hj]
        simp [nats, List.getD_eq_getElem?_getD, hj]
    clear gT gS Hc H1 H2 H3 HT gB
    replace vT := Lib.hid vT
    replace vC := Lib.hid vC)
  go_loop [6, 15] (fun n i => ∃ k m : Nat, k ≤ s.size ∧ i = .int .i64 k ∧ m < 65536 ∧ Hid (m = on n0 ((nats s).take k)) ∧ n = .int .i64 m) (fun _ i => s.size - (intOf i).toNat)
  case atStart => exact ⟨0, n0, by omega, rfl, hn0, Lib.hid (by simp [on]), rfl⟩
  case round =>
    obtain ⟨k, m, hk, rfl, hm, Hm, rfl⟩ := hrel
    by_cases hlt : k < s.size
    · have hcell := vC.out k hlt
      obtain ⟨c, hc, Hc⟩ : ∃ c : Nat, c < 256 ∧ Hid (c = (nats s).getD k 0) := ⟨_, by
        have hk' : k < (nats s).length := by rw [nats_length]; exact hlt
        rw [List.getD_eq_getElem?_getD, List.getElem?_eq_getElem hk']; exact nats_lt s _ (List.getElem_mem hk'), Lib.hid rfl⟩
      rw [← Hc.out] at hcell
      obtain ⟨n1, hn1, Hn1⟩ : ∃ n1 : Nat, n1 < 65536 ∧ Hid (n1 = m ^^^ 256 * c) := ⟨_, lay_lt hm hc, Lib.hid rfl⟩
      have g1 : bits .xor .i64 (m : Int) ((c : Int) * 256) = (n1 : Int) := by rw [Hn1.out]; exact shl8_xor hm hc
      obtain ⟨q1, hq1, Hq1⟩ : ∃ q : Nat, q < 65536 ∧ Hid (q = 16 * n1 % 65536) := ⟨_, by omega, Lib.hid rfl⟩
      have g2 : bits .and .i64 ((n1 : Int) * 16) 65535 = (q1 : Int) := by rw [show ((n1 : Int) * 16) = ((16 * n1 : Nat) : Int) by omega, Hq1.out]; exact and_mask_nat _
      obtain ⟨t1, Ht1⟩ : ∃ t : Nat, Hid (t = f4 (4096 * (n1 / 4096))) := ⟨_, Lib.hid rfl⟩
      have c1 := vT.out (n1 / 4096) (by omega)
      rw [← Ht1.out] at c1
      obtain ⟨n2, hn2, Hn2⟩ : ∃ n2 : Nat, n2 < 65536 ∧ Hid (n2 = f4 n1) := ⟨_, f4_lt, Lib.hid rfl⟩
      have g3 : bits .xor .i64 (q1 : Int) (t1 : Int) = (n2 : Int) := by rw [Hq1.out, Ht1.out, Hn2.out]; exact half_step hn1
      obtain ⟨q2, hq2, Hq2⟩ : ∃ q : Nat, q < 65536 ∧ Hid (q = 16 * n2 % 65536) := ⟨_, by omega, Lib.hid rfl⟩
      have g4 : bits .and .i64 ((n2 : Int) * 16) 65535 = (q2 : Int) := by rw [show ((n2 : Int) * 16) = ((16 * n2 : Nat) : Int) by omega, Hq2.out]; exact and_mask_nat _
      obtain ⟨t2, Ht2⟩ : ∃ t : Nat, Hid (t = f4 (4096 * (n2 / 4096))) := ⟨_, Lib.hid rfl⟩
      have c2 := vT.out (n2 / 4096) (by omega)
      rw [← Ht2.out] at c2
      obtain ⟨n3, hn3, Hn3⟩ : ∃ n3 : Nat, n3 < 65536 ∧ Hid (n3 = f4 n2) := ⟨_, f4_lt, Lib.hid rfl⟩
      have g5 : bits .xor .i64 (q2 : Int) (t2 : Int) = (n3 : Int) := by rw [Hq2.out, Ht2.out, Hn3.out]; exact half_step hn2
      have b1 : (n1 : Int) / 4096 < 16 := by omega
      have b2 : (n2 : Int) / 4096 < 16 := by omega
      go_wp2
      go_round
      case rel => 
        refine ⟨k + 1, n3, by omega, by go_num, hn3, Lib.hid ?_, rfl⟩
        rw [on_take_succ _ _ _ (by rw [nats_length]; exact hlt), ← Hm.out, ← Hc.out, Hn3.out, Hn2.out, Hn1.out]
        rfl
      case measure => simp [intOf]; omega
    · obtain rfl : k = s.size := by omega
      go_wp2
      go_ret
      refine ⟨ret_int ?_, vB⟩
      unfold crcOn
      rw [Hm.out, ← Hn0.out, List.take_of_length_le (by rw [nats_length]; omega)]
end Go.Proofs.Ytdmgndiglpcpfaa.Crc
