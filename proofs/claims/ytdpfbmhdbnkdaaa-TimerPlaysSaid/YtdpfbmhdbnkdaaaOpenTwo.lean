/- An argument that is an array of two whole numbers, opened. -/
import Derived.OpenShut
import Derived.WideKeyArr2
namespace Go.Proofs.Ytdpfbmhdbnkdaaa
open Go.ChangeShapes Go.WideShapes
theorem open_two {H : Type} {enc : TypeId × Value → H} {P : Program} {W : World} {base : Nat} {sp : Nat → Bool} {held : Bool} {t e : TypeId} {q : IntKind} {r : Reach} {b0 : Nat} {v : Value} {d : DataW H} {ps : List MemPlace}
    (ht : P.underlying t = some (.array 2 e)) (he : P.underlying e = some (.int q)) (hc : P.cellsOf e = 1) (hk : P.cellsOf t = 2) (hv : Value.okWide P W r b0 t v) (h : DataW.Trod enc P W base sp held t v d ps) :
    ∃ x y : Int, v = .agg #[.int q x, .int q y] ∧ (Lit.int q x).wf = true ∧ (Lit.int q y).wf = true := by
  have hv' := hv
  simp only [Value.okWide, ht] at hv'
  obtain ⟨cs, rfl, hsz, _⟩ := hv'
  obtain ⟨fuel, hf⟩ := h
  obtain ⟨xs, m, rfl, _, hl, _, hi⟩ := DataW.trod_array ht hf
  have h2 : xs.length = 2 := by assumption
  have e0 := hi 0 (by omega)
  have e1 := hi 1 (by omega)
  rw [hc] at e0 e1
  rw [List.getElem?_eq_getElem (by omega)] at e0 e1
  obtain ⟨x, hx, _, wx⟩ := DataW.trod_int he e0
  obtain ⟨y, hy, _, wy⟩ := DataW.trod_int he e1
  simp only [Value.cells] at hx hy hl
  have hcs : cs.toList.length = 2 := by
    rw [hl, hk]
  obtain ⟨l⟩ := cs
  match l, hcs with
  | [a, b], _ =>
    simp at hx hy
    subst hx hy
    exact ⟨x, y, rfl, wx, wy⟩
end Go.Proofs.Ytdpfbmhdbnkdaaa
