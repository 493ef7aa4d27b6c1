/- An argument that is a row of jobs, or one job, opened: it reads as a list of them, or as its three numbers. -/
import Derived.Test.YtojdbpeaclnmkaaPrint0
import Derived.Deep.Slices
import Derived.Deep.Fields
import Derived.ChangeSame
import Derived.ChangeArms
import Derived.KernelRfl
namespace Go.Proofs.Ytojdbpeaclnmkaa
open Go.ChangeShapes Go.WideShapes Go.Deep Go.RowKit Go.Proofs.YtojdbpeaclnmkaaW.PrintWords Go.Proofs.Ytojdbpeaclnmkaa.Print
set_option linter.unusedVariables false
theorem one3 : Try.prog.cellsOf 3 = 1 := by kernel_rfl
theorem three30 : Try.prog.cellsOf 30 = 3 := by kernel_rfl
section
variable {H : Type} {enc : TypeId × Value → H} {w : World} {base : Nat} {spare : Nat → Bool} {held : Bool}
theorem cells30 {fuel : Nat} {cs : List Value} {x : DataW H × List MemPlace} (h : DataW.trod enc Try.prog w base spare held fuel 30 cs = some x) :
    ∃ r : S30, cs = [.int .i64 r.f0, .int .i64 r.f1, .int .i64 r.f2] := by
  obtain ⟨xs, n, _, rfl, hl, hlen, hf⟩ := DataW.trod_struct Try.underlying30 h
  have g0 := hf 0 _ rfl
  have g1 := hf 1 _ rfl
  have g2 := hf 2 _ rfl
  clear hf
  match cs, hl.trans three30, xs, hlen with
  | [c0, c1, c2], _, [x0, x1, x2], _ =>
    obtain ⟨n0, e0, _⟩ := DataW.trod_int Try.underlying3 g0
    obtain ⟨n1, e1, _⟩ := DataW.trod_int Try.underlying3 g1
    obtain ⟨n2, e2, _⟩ := DataW.trod_int Try.underlying3 g2
    simp [one3] at e0 e1 e2
    subst e0 e1 e2
    exact ⟨⟨n0, n1, n2⟩, rfl⟩
theorem rows30 {t : TypeId} (ht : Try.prog.underlying t = some (.slice 30)) {fuel : Nat} {A : Option Addr} {len cap : Nat} {x : DataW H × List MemPlace} (hcs : DataW.trod enc Try.prog w base spare held fuel t [.slice A len cap] = some x) :
    ∃ zs : List S30, len = zs.length ∧ zs.length ≤ cap ∧ Kd.C k30 w A zs.length zs := by
  rcases open_slice ht hcs with ⟨h0, _⟩ | ⟨a, l, c, m, n, D, Pl, hv, _, hl, hm, hmm, _, hi⟩
  · simp at h0
    obtain ⟨rfl, rfl, rfl⟩ := h0
    exact ⟨[], rfl, Nat.le_refl _, rfl, by simp, fun h => by simp at h⟩
  · simp at hv
    obtain ⟨rfl, rfl, rfl⟩ := hv
    have hlm : len ≤ m := by rw [hmm]; split <;> omega
    have each : ∀ i : Nat, i < len → ∃ r : S30, ∃ cs', w.cells? base (a.add (i * 3)) 3 = some cs' ∧ cs' = [.int .i64 r.f0, .int .i64 r.f1, .int .i64 r.f2] := by
      intro i h
      obtain ⟨cs', hc, ht'⟩ := hi i (by omega)
      rw [three30] at hc
      obtain ⟨r, hr⟩ := cells30 ht'
      exact ⟨r, cs', hc, hr⟩
    refine ⟨(List.range len).map (fun i => if h : i < len then Classical.choose (each i h) else z30), by simp, by simpa using hl, by simp, by unfold maxLen at hm; simp; omega, fun h0 => ⟨a, rfl, fun j p hj => ?_⟩⟩
    have hjl : j < len := by
      have := (List.getElem?_eq_some_iff.1 hj).1
      simpa using this
    obtain ⟨cs', hc, hcs'⟩ := Classical.choose_spec (each j hjl)
    have hp : p = Classical.choose (each j hjl) := by
      simp only [List.getElem?_map, List.getElem?_range hjl, Option.map_some, Option.some.injEq] at hj
      rw [dif_pos hjl] at hj
      exact hj.symm
    rw [← hp] at hcs'
    obtain ⟨_, hcl, hat⟩ := World.cells?_some hc
    refine ⟨cs', hcl, by rw [hcs']; exact k30_mk w p, fun i u hu => ?_⟩
    have hil : i < 3 := by have := (List.getElem?_eq_some_iff.1 hu).1; omega
    have h1 := hat i hil
    rw [Go.Deep.add_add] at h1
    exact h1.trans hu
theorem agg30 {r : Reach} {b0 : Nat} {v : Value} {d : DataW H} {p : List MemPlace} (hv : Value.okWide Try.prog w r b0 30 v) (h : DataW.Trod enc Try.prog w base spare held 30 v d p) :
    ∃ r : S30, v = .agg #[.int .i64 r.f0, .int .i64 r.f1, .int .i64 r.f2] := by
  obtain ⟨cs, rfl, _⟩ := okWide_struct Try.underlying30 hv
  obtain ⟨fuel, hf⟩ := h
  obtain ⟨q, hq⟩ := cells30 hf
  refine ⟨q, ?_⟩
  have h1 : cs.toList = _ := hq
  rw [← h1]
end
end Go.Proofs.Ytojdbpeaclnmkaa
