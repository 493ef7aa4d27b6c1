/- The row of ReadyOrders: its arguments are opened by hand; what the call comes to is in the walk. -/
import Derived.Test.YtojdbpeaclnmkaaRows
import Derived.Test.YtojdbpeaclnmkaaROrders
import Derived.Test.YtojdbpeaclnmkaaOpenReady
import Derived.Test.YtojdbpeaclnmkaaOpenBytes
import Derived.WalkKit
import Derived.ProofKit
import Derived.OpenShut
import Derived.ShutString
import Derived.ChangeOld
import Derived.Below
import Derived.Carry
import Derived.SizedLaws
namespace Go.Proofs.Ytojdbpeaclnmkaa.readyOrders
open Go.ChangeShapes Go.WideShapes Go.ChangeAt Go.RowKit Go.Proofs.YtojdbpeaclnmkaaW.PrintWords Go.Proofs.Ytojdbpeaclnmkaa.Print
open Go.ChangeMaps (open_string shut_string)
set_option linter.unusedVariables false
theorem own : ownKnob Try.prog.godebug = none := by kernel_rfl
theorem laidOut : laidOutB Try.prog = true := by kernel_rfl
set_option maxRecDepth 100000 in
theorem lifted (os : Os) (started : os.Started) (H : Type) (enc : TypeId × Value → H) :
    ReturnsInHanded {} Try.checked os 4 .any (Rows.readyOrdersSpec.pre6 enc Try.prog Try.f4 Rows.readyOrdersRow.domain false) (Rows.readyOrdersSpec.post enc Try.prog Try.f4 false true false false) := by
  refine returnsInHanded_of_change_sized (C := Try.checked) own started (by kernel_rfl) Try.func4
    (ChangeSpec.witness6 (enc := enc) (C := Try.checked) false ⟨#[], #[.slice none 0 0, .slice none 0 0], []⟩ 8 (by kernel_rfl) (by kernel_rfl) (by kernel_rfl) (by kernel_rfl)) ?_
  intro W base args ds gs before hval0 hW hcnd hsz0 _
  have hval : ∀ (j : Nat) t v, Try.f4.params[j]? = some t → args[j]? = some v → Value.okWide Try.prog W .any base t v := hval0
  have hW' := hW
  obtain ⟨p, q, hA0, hV, rfl, hfz, hnd⟩ := hW
  have hA : DataW.TrodAll enc Try.prog W 0 (fun _ => true) true Try.f4.params.toList args.toList ds p := hA0
  rw [Try.params4] at hA hval
  obtain ⟨v0, vs0, d0, ds0, p0, q0, hargs, rfl, rfl, h0, r0⟩ := trodAll_cons hA
  obtain ⟨v1, vs1, d1, ds1, p1, q1, rfl, rfl, rfl, h1, r1⟩ := trodAll_cons r0
  obtain ⟨rfl, rfl, rfl⟩ := trodAll_nil r1
  obtain rfl : args = #[v0, v1] := by cases args; simp_all
  obtain ⟨rfl, rfl⟩ := trodVars_none hV
  have k0 := h0
  have lt0 : ∀ x ∈ p0, x.block < W.heap.size := by obtain ⟨m, hm⟩ := k0; exact DataW.trod_lt m _ _ _ hm
  obtain ⟨a0, len0, cap0, rfl⟩ := okWide_slice Try.underlying44 (hval 0 44 v0 rfl rfl)
  obtain ⟨z0, rfl, y0, w0⟩ : ∃ zs : List S30, len0 = zs.length ∧ zs.length ≤ cap0 ∧ Kd.C k30 W a0 zs.length zs := by
    obtain ⟨fuel, hf⟩ := h0
    exact rows30 Try.underlying44 hf
  have k1 := h1
  have lt1 : ∀ x ∈ p1, x.block < W.heap.size := by obtain ⟨m, hm⟩ := k1; exact DataW.trod_lt m _ _ _ hm
  obtain ⟨a1, len1, cap1, rfl⟩ := okWide_slice Try.underlying49 (hval 1 49 v1 rfl rfl)
  obtain ⟨m1, w1⟩ : (len1 : Int) < 9223372036854775808 ∧ ∀ k, k < len1 → ∃ ad v, a1 = some ad ∧ W.cell? (ad.add k) = some (.int .u8 v) ∧ 0 ≤ v ∧ v < 256 := by
    obtain ⟨fuel, hf⟩ := h1
    exact row_bytes Try.underlying49 Try.underlying5 (by kernel_rfl) hf
  clear hA0 hval0 hsz0
  refine (Rd.orders_any a0 cap0 z0 a1 len1 cap1 W w0 m1 w1).mono fun e W' ⟨he, bel⟩ => ?_
  subst he
  exact ⟨_, rfl, _, _, _, [], _, [], hW', trodAll_mk1 (shut_bool Try.underlying4 _), (trodAll_cons_mk (Below.trod laidOut (by kernel_rfl) (of_decide_eq_true (by kernel_rfl)) k0 bel lt0) (trodAll_cons_mk (Below.trod laidOut (by kernel_rfl) (of_decide_eq_true (by kernel_rfl)) k1 bel lt1) trodAll_mk0)), rfl, bel.frame _, fun h => by cases h⟩
theorem over : Rows.readyOrdersRow.holds Try.pinned (OpenSpec.ofChange Rows.readyOrdersSpec) :=
  OpenClaim.holds_of_wide 4 Try.f4 rfl rfl rfl rfl rfl rfl rfl ⟨rfl, rfl, rfl, rfl, rfl⟩ rfl rfl rfl rfl rfl (by kernel_rfl) Try.func4 (by kernel_rfl)
    (of_decide_eq_true (by kernel_rfl)) (by unfold Func.isWrapper; first | (rw [if_pos (by decide +kernel)]; kernel_rfl) | (rw [if_neg (by decide +kernel)]; exact ⟨rfl, rfl⟩))
    (fun os started H enc _ => lifted os started H enc)
theorem proved : Rows.ReadyOrdersSaid := over
#print axioms proved
end Go.Proofs.Ytojdbpeaclnmkaa.readyOrders
namespace Go.Proofs.Ytojdbpeaclnmkaa
/-- The row, under a short name, for the claim. -/
theorem readyOrders_holds : Rows.ReadyOrdersSaid := readyOrders.proved
end Go.Proofs.Ytojdbpeaclnmkaa
