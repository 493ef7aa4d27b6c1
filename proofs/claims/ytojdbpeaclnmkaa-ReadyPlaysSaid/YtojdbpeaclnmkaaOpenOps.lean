/- An argument that is a row of calls, opened. -/
import Derived.Test.YtojdbpeaclnmkaaOpenReady
import Derived.Test.YtojdbpeaclnmkaaRPlays
namespace Go.Proofs.Ytojdbpeaclnmkaa
open Go.ChangeShapes Go.WideShapes Go.Deep Go.RowKit Go.Proofs.YtojdbpeaclnmkaaW.PrintWords Go.Proofs.Ytojdbpeaclnmkaa.Print Go.Proofs.Ytojdbpeaclnmkaa.Rd
set_option linter.unusedVariables false
theorem six32 : Try.prog.cellsOf 32 = 6 := by kernel_rfl
section
variable {H : Type} {enc : TypeId × Value → H} {w : World} {base : Nat} {spare : Nat → Bool} {held : Bool}
theorem cells32 {fuel : Nat} {cs : List Value} {x : DataW H × List MemPlace} (h : DataW.trod enc Try.prog w base spare held fuel 32 cs = some x) :
    ∃ r : Op6, cs = [.int .i64 r.kind, .int .i64 r.j.f0, .int .i64 r.j.f1, .int .i64 r.j.f2, .int .i64 r.a, .int .i64 r.b] := by
  obtain ⟨xs, n, _, rfl, hl, hlen, hf⟩ := DataW.trod_struct Try.underlying32 h
  have g0 := hf 0 _ rfl
  have g1 := hf 1 _ rfl
  have g2 := hf 2 _ rfl
  have g3 := hf 3 _ rfl
  clear hf
  match cs, hl.trans six32, xs, hlen with
  | [c0, c1, c2, c3, c4, c5], _, [x0, x1, x2, x3], _ =>
    obtain ⟨n0, e0, _⟩ := DataW.trod_int Try.underlying3 g0
    obtain ⟨r, e1⟩ := cells30 g1
    obtain ⟨n2, e2, _⟩ := DataW.trod_int Try.underlying3 g2
    obtain ⟨n3, e3, _⟩ := DataW.trod_int Try.underlying3 g3
    simp [one3, three30] at e0 e1 e2 e3
    obtain ⟨rfl, rfl, rfl⟩ := e1
    subst e0 e2 e3
    exact ⟨⟨n0, r, n2, n3⟩, rfl⟩
theorem rowsOps {t : TypeId} (ht : Try.prog.underlying t = some (.slice 32)) {fuel : Nat} {A : Option Addr} {len cap : Nat} {x : DataW H × List MemPlace} (hcs : DataW.trod enc Try.prog w base spare held fuel t [.slice A len cap] = some x) :
    ∃ zs : List Op6, len = zs.length ∧ (zs.length : Int) ≤ 9223372036854775807 ∧ OpsAt w A zs := by
  rcases open_slice ht hcs with ⟨h0, _⟩ | ⟨a, l, c, m, n, D, Pl, hv, _, hl, hm, hmm, _, hi⟩
  · simp at h0
    obtain ⟨rfl, rfl, rfl⟩ := h0
    exact ⟨[], rfl, by simp, fun i hi => by simp at hi⟩
  · simp at hv
    obtain ⟨rfl, rfl, rfl⟩ := hv
    have hlm : len ≤ m := by rw [hmm]; split <;> omega
    have each : ∀ i : Nat, i < len → ∃ r : Op6, ∃ cs', w.cells? base (a.add (i * 6)) 6 = some cs' ∧ cs' = [.int .i64 r.kind, .int .i64 r.j.f0, .int .i64 r.j.f1, .int .i64 r.j.f2, .int .i64 r.a, .int .i64 r.b] := by
      intro i h
      obtain ⟨cs', hc, ht'⟩ := hi i (by omega)
      rw [six32] at hc
      obtain ⟨r, hr⟩ := cells32 ht'
      exact ⟨r, cs', hc, hr⟩
    refine ⟨(List.range len).map (fun i => if h : i < len then Classical.choose (each i h) else z6), by simp, by unfold maxLen at hm; simp; omega, fun j hj => ?_⟩
    have hjl : j < len := by simpa using hj
    obtain ⟨cs', hc, hcs'⟩ := Classical.choose_spec (each j hjl)
    have hp : ((List.range len).map (fun i => if h : i < len then Classical.choose (each i h) else z6)).getD j z6 = Classical.choose (each j hjl) := by
      rw [List.getD_eq_getElem?_getD, List.getElem?_map, List.getElem?_range hjl]
      simp only [Option.map_some, Option.getD_some]
      rw [dif_pos hjl]
    rw [hp]
    generalize Classical.choose (each j hjl) = r at *
    obtain ⟨_, hcl, hat⟩ := World.cells?_some hc
    subst hcs'
    have h0 := hat 0 (by decide)
    have h1 := hat 1 (by decide)
    have h2 := hat 2 (by decide)
    have h3 := hat 3 (by decide)
    have h4 := hat 4 (by decide)
    have h5 := hat 5 (by decide)
    rw [Go.Deep.add_add] at h0
    rw [Go.Deep.add_add, add_field _ _ 1 (by omega)] at h1
    rw [Go.Deep.add_add, add_field _ _ 2 (by omega)] at h2
    rw [Go.Deep.add_add, add_field _ _ 3 (by omega)] at h3
    rw [Go.Deep.add_add, add_field _ _ 4 (by omega)] at h4
    rw [Go.Deep.add_add, add_field _ _ 5 (by omega)] at h5
    have hlt := World.block_lt_of_cell? w _ h0
    exact ⟨a, rfl, by rwa [Rd.add_block] at hlt, h0, h1, h2, h3, h4, h5⟩
end
end Go.Proofs.Ytojdbpeaclnmkaa
