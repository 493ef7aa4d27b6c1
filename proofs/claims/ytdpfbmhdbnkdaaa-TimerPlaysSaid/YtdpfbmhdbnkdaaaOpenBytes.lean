/- An argument that is a row of bytes, opened: each cell is a byte. -/
import Derived.Test.YtdpfbmhdbnkdaaaPrint0
import Derived.ChangeSlices
import Derived.KernelRfl
namespace Go.Proofs.Ytdpfbmhdbnkdaaa
open Go.ChangeShapes Go.WideShapes
section
variable {H : Type} {enc : TypeId × Value → H} {P : Program} {w : World} {base : Nat} {spare : Nat → Bool} {held : Bool}
theorem row_bytes {t e : TypeId} (ht : P.underlying t = some (.slice e)) (he : P.underlying e = some (.int .u8)) (hc : P.cellsOf e = 1) {fuel : Nat} {A : Option Addr} {len cap : Nat} {x : DataW H × List MemPlace} (h : DataW.trod enc P w base spare held fuel t [.slice A len cap] = some x) :
    (len : Int) < 9223372036854775808 ∧ ∀ k, k < len → ∃ ad v, A = some ad ∧ w.cell? (ad.add k) = some (.int .u8 v) ∧ 0 ≤ v ∧ v < 256 := by
  rcases open_ints ht he hc h with ⟨h0, _⟩ | ⟨a, l, c, zs, hv, _, hl, hm, hlen, _, hi, hw⟩
  · simp at h0
    obtain ⟨_, rfl, _⟩ := h0
    exact ⟨by decide, fun k hk => by omega⟩
  · simp at hv
    obtain ⟨rfl, rfl, rfl⟩ := hv
    unfold maxLen at hm
    have hll : len ≤ zs.length := by rw [hlen]; split <;> omega
    refine ⟨by omega, fun k hk => ⟨a, zs.getD k 0, rfl, hi k (by omega), ?_⟩⟩
    have hk' : k < zs.length := by omega
    have hmem : zs.getD k 0 ∈ zs := by
      rw [List.getD_eq_getElem?_getD, List.getElem?_eq_getElem hk']
      exact List.getElem_mem hk'
    have h2 := hw _ hmem
    simp only [Lit.wf, Bool.and_eq_true, decide_eq_true_eq] at h2
    have e0 : IntKind.u8.min = 0 := by decide
    have e1 : IntKind.u8.max = 255 := by decide
    omega
end
end Go.Proofs.Ytdpfbmhdbnkdaaa
