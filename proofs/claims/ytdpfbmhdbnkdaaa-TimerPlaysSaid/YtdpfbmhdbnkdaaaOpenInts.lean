/- Arguments that are rows of whole numbers, or rows of such rows, opened. -/
import Derived.Test.YtdpfbmhdbnkdaaaTmKnown
import Derived.ChangeSlices
import Derived.Deep.Matrix
import Derived.KernelRfl
namespace Go.Proofs.Ytdpfbmhdbnkdaaa
open Go Go.ChangeShapes Go.WideShapes Go.Deep Go.Proofs.Ytdpfbmhdbnkdaaa.Tm
set_option linter.unusedVariables false
section
variable {H : Type} {enc : TypeId × Value → H} {P : Program} {w : World} {base : Nat} {held : Bool}
theorem take_getD {zs : List Int} {n i : Nat} (h : i < n) : (zs.take n).getD i 0 = zs.getD i 0 := by
  rw [List.getD_eq_getElem?_getD, List.getD_eq_getElem?_getD, List.getElem?_take, if_pos h]
theorem row_ints {t e : TypeId} (ht : P.underlying t = some (.slice e)) (he : P.underlying e = some (.int .i64)) (hc : P.cellsOf e = 1) {spare : Nat → Bool} {fuel : Nat} {A : Option Addr} {len cap : Nat} {x : DataW H × List MemPlace} (h : DataW.trod enc P w base spare held fuel t [.slice A len cap] = some x) :
    ∃ zs : List Int, len = zs.length ∧ (zs.length : Int) ≤ 9223372036854775807 ∧ PkAt w A cap zs := by
  rcases open_ints ht he hc h with ⟨h0, _⟩ | ⟨a, l, c, zs, hv, _, hl, hm, hlen, _, hi, hw⟩
  · simp at h0
    obtain ⟨rfl, rfl, rfl⟩ := h0
    exact ⟨[], rfl, by decide, PkAt.nil w⟩
  · simp at hv
    obtain ⟨rfl, rfl, rfl⟩ := hv
    unfold maxLen at hm
    have hll : len ≤ zs.length := by rw [hlen]; split <;> omega
    have hln : (zs.take len).length = len := by rw [List.length_take]; omega
    refine ⟨zs.take len, hln.symm, by omega, by omega, fun i h => ⟨a, rfl, ?_⟩⟩
    rw [take_getD (by omega)]
    exact hi i (by omega)
/-- a row of rows of whole numbers -/
def MatAt (w : World) (A : Option Addr) (Q : List (List Int)) : Prop := ∀ i, i < Q.length → ∃ ad Ai Ci, A = some ad ∧ ad.block < w.heap.size ∧ w.cell? (ad.add i) = some (.slice Ai (Q.getD i []).length Ci) ∧ PkAt w Ai Ci (Q.getD i []) ∧ ((Q.getD i []).length : Int) ≤ 9223372036854775807
theorem row_rows {t e q : TypeId} (ht : P.underlying t = some (.slice e)) (he : P.underlying e = some (.slice q)) (hq : P.underlying q = some (.int .i64)) (ce : P.cellsOf e = 1) (cq : P.cellsOf q = 1) {fuel : Nat} {A : Option Addr} {len cap : Nat} {x : DataW H × List MemPlace} (h : DataW.trod enc P w base (fun _ => true) held fuel t [.slice A len cap] = some x) :
    ∃ Q : List (List Int), len = Q.length ∧ (Q.length : Int) ≤ 9223372036854775807 ∧ MatAt w A Q := by
  rcases open_int_rows ht he hq ce cq h with ⟨h0, _⟩ | ⟨a, l, c, AA, LL, CC, ZZ, hv, _, hl, hm, _, hr⟩
  · simp at h0
    obtain ⟨rfl, rfl, rfl⟩ := h0
    exact ⟨[], rfl, by decide, fun i hi => by simp at hi⟩
  · simp at hv
    obtain ⟨rfl, rfl, rfl⟩ := hv
    unfold maxLen at hm
    refine ⟨(List.range len).map (fun r => (ZZ r).take (LL r)), by simp, by simp; omega, fun i hi => ?_⟩
    have hil : i < len := by simpa using hi
    have hg : ((List.range len).map (fun r => (ZZ r).take (LL r))).getD i [] = (ZZ i).take (LL i) := by
      rw [List.getD_eq_getElem?_getD, List.getElem?_map, List.getElem?_range hil]
      rfl
    rw [hg]
    obtain ⟨h1, h2, h3, h4, h5, h6, h7⟩ := hr i (by omega)
    unfold maxLen at h3
    have hlen : ((ZZ i).take (LL i)).length = LL i := by rw [List.length_take]; omega
    refine ⟨a, AA i, CC i, rfl, ?_, by rw [hlen]; exact h1, ⟨by omega, fun k hk => ?_⟩, by omega⟩
    · have := World.block_lt_of_cell? w _ h1
      have e1 : (a.add i).block = a.block := by unfold Addr.add; split <;> rfl
      rwa [e1] at this
    · rw [hlen] at hk
      cases hA : AA i with
      | none => have := h6 hA; omega
      | some ad => exact ⟨ad, rfl, by rw [take_getD hk]; exact (h7 ad hA).2 k (by omega)⟩
end
theorem Tm.u8_range {v : Int} (h : (Lit.int .u8 v).wf = true) : 0 ≤ v ∧ v < 256 := by
  simp only [Lit.wf, Bool.and_eq_true, decide_eq_true_eq] at h
  have e0 : IntKind.u8.min = 0 := by decide
  have e1 : IntKind.u8.max = 255 := by decide
  omega
end Go.Proofs.Ytdpfbmhdbnkdaaa
