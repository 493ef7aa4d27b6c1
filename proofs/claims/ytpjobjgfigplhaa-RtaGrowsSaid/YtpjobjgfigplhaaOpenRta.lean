/- An argument that is a row of tasks, or one task, opened: it reads as a list of them, or as its six numbers. -/
import Derived.Test.YtpjobjgfigplhaaPrint0
import Derived.Deep.Slices
import Derived.Deep.Fields
import Derived.ChangeSame
import Derived.ChangeArms
import Derived.KernelRfl
namespace Go.Proofs.Ytpjobjgfigplhaa
open Go.ChangeShapes Go.WideShapes Go.Deep Go.RowKit Go.Proofs.YtpjobjgfigplhaaW.PrintWords Go.Proofs.Ytpjobjgfigplhaa.Print
set_option linter.unusedVariables false
theorem one3 : Try.prog.cellsOf 3 = 1 := by kernel_rfl
theorem six41 : Try.prog.cellsOf 41 = 6 := by kernel_rfl
section
variable {H : Type} {enc : TypeId × Value → H} {w : World} {base : Nat} {spare : Nat → Bool} {held : Bool}
theorem cells41 {fuel : Nat} {cs : List Value} {x : DataW H × List MemPlace} (h : DataW.trod enc Try.prog w base spare held fuel 41 cs = some x) :
    ∃ r : S41, cs = [.int .i64 r.f0, .int .i64 r.f1, .int .i64 r.f2, .int .i64 r.f3, .int .i64 r.f4, .int .i64 r.f5] := by
  obtain ⟨xs, n, _, rfl, hl, hlen, hf⟩ := DataW.trod_struct Try.underlying41 h
  have g0 := hf 0 _ rfl
  have g1 := hf 1 _ rfl
  have g2 := hf 2 _ rfl
  have g3 := hf 3 _ rfl
  have g4 := hf 4 _ rfl
  have g5 := hf 5 _ rfl
  clear hf
  match cs, hl.trans six41, xs, hlen with
  | [c0, c1, c2, c3, c4, c5], _, [x0, x1, x2, x3, x4, x5], _ =>
    obtain ⟨n0, e0, _⟩ := DataW.trod_int Try.underlying3 g0
    obtain ⟨n1, e1, _⟩ := DataW.trod_int Try.underlying3 g1
    obtain ⟨n2, e2, _⟩ := DataW.trod_int Try.underlying3 g2
    obtain ⟨n3, e3, _⟩ := DataW.trod_int Try.underlying3 g3
    obtain ⟨n4, e4, _⟩ := DataW.trod_int Try.underlying3 g4
    obtain ⟨n5, e5, _⟩ := DataW.trod_int Try.underlying3 g5
    simp [one3] at e0 e1 e2 e3 e4 e5
    subst e0 e1 e2 e3 e4 e5
    exact ⟨⟨n0, n1, n2, n3, n4, n5⟩, rfl⟩
theorem rows41 {t : TypeId} (ht : Try.prog.underlying t = some (.slice 41)) {fuel : Nat} {A : Option Addr} {len cap : Nat} {x : DataW H × List MemPlace} (hcs : DataW.trod enc Try.prog w base spare held fuel t [.slice A len cap] = some x) :
    ∃ zs : List S41, len = zs.length ∧ zs.length ≤ cap ∧ Kd.C k41 w A zs.length zs := by
  rcases open_slice ht hcs with ⟨h0, _⟩ | ⟨a, l, c, m, n, D, Pl, hv, _, hl, hm, hmm, _, hi⟩
  · simp at h0
    obtain ⟨rfl, rfl, rfl⟩ := h0
    exact ⟨[], rfl, Nat.le_refl _, rfl, by simp, fun h => by simp at h⟩
  · simp at hv
    obtain ⟨rfl, rfl, rfl⟩ := hv
    have hlm : len ≤ m := by rw [hmm]; split <;> omega
    have each : ∀ i : Nat, i < len → ∃ r : S41, ∃ cs', w.cells? base (a.add (i * 6)) 6 = some cs' ∧ cs' = [.int .i64 r.f0, .int .i64 r.f1, .int .i64 r.f2, .int .i64 r.f3, .int .i64 r.f4, .int .i64 r.f5] := by
      intro i h
      obtain ⟨cs', hc, ht'⟩ := hi i (by omega)
      rw [six41] at hc
      obtain ⟨r, hr⟩ := cells41 ht'
      exact ⟨r, cs', hc, hr⟩
    refine ⟨(List.range len).map (fun i => if h : i < len then Classical.choose (each i h) else z41), by simp, by simpa using hl, by simp, by unfold maxLen at hm; simp; omega, fun h0 => ⟨a, rfl, fun j p hj => ?_⟩⟩
    have hjl : j < len := by
      have := (List.getElem?_eq_some_iff.1 hj).1
      simpa using this
    obtain ⟨cs', hc, hcs'⟩ := Classical.choose_spec (each j hjl)
    have hp : p = Classical.choose (each j hjl) := by
      simp only [List.getElem?_map, List.getElem?_range hjl, Option.map_some, Option.some.injEq] at hj
      rw [dif_pos hjl] at hj
      exact hj.symm
    rw [← hp] at hcs'
    obtain ⟨_, hcl, hat⟩ := World.cells?_some hc
    refine ⟨cs', hcl, by rw [hcs']; exact k41_mk w p, fun i u hu => ?_⟩
    have hil : i < 6 := by have := (List.getElem?_eq_some_iff.1 hu).1; omega
    have h1 := hat i hil
    rw [Go.Deep.add_add] at h1
    exact h1.trans hu
theorem agg41 {r : Reach} {b0 : Nat} {v : Value} {d : DataW H} {p : List MemPlace} (hv : Value.okWide Try.prog w r b0 41 v) (h : DataW.Trod enc Try.prog w base spare held 41 v d p) :
    ∃ r : S41, v = .agg #[.int .i64 r.f0, .int .i64 r.f1, .int .i64 r.f2, .int .i64 r.f3, .int .i64 r.f4, .int .i64 r.f5] := by
  obtain ⟨cs, rfl, _⟩ := okWide_struct Try.underlying41 hv
  obtain ⟨fuel, hf⟩ := h
  obtain ⟨q, hq⟩ := cells41 hf
  refine ⟨q, ?_⟩
  have h1 : cs.toList = _ := hq
  rw [← h1]
end
end Go.Proofs.Ytpjobjgfigplhaa
