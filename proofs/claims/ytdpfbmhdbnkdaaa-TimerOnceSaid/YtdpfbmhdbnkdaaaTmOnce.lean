/- TimerOnce: what is released is told once, at nominal plus jitter, or waits. -/
import Derived.Test.YtdpfbmhdbnkdaaaTmAlone
set_option linter.unusedVariables false
set_option linter.unusedSimpArgs false
namespace Go.Proofs.Ytdpfbmhdbnkdaaa.Tm
open Go Go.RowKit Go.Proofs.YtdpfbmhdbnkdaaaW.PrintWords Go.Proofs.YtdpfbmhdbnkdaaaW.PrintLast Go.Proofs.YtdpfbmhdbnkdaaaW.PrintMore Go.Proofs.Ytdpfbmhdbnkdaaa Go.Proofs.Ytdpfbmhdbnkdaaa.Print
attribute [local go_sem] max2_int min2_int max_two min_two
/-- what a slot releases: the k-th release in all has the jitter jit k -/
def rl (jit : Nat → Int) (s : Int) : Int → List Int → Nat → List W3
  | _, [], _ => []
  | i, p :: ps, k => if s % p = 0 then ⟨i, s, s + jit k⟩ :: rl jit s (i + 1) ps (k + 1) else rl jit s (i + 1) ps k
section
variable (jit : Nat → Int) (s : Int)
theorem rl_append : ∀ (a b : List Int) (i : Int) (k : Nat), rl jit s i (a ++ b) k = rl jit s i a k ++ rl jit s (i + a.length) b (k + (rl jit s i a k).length) := by
  intro a
  induction a with
  | nil => intro b i k; simp [rl]
  | cons p a ih =>
    intro b i k
    rw [List.cons_append, rl, rl, List.length_cons, show i + ((a.length + 1 : Nat) : Int) = i + 1 + (a.length : Int) by omega]
    split
    · rw [ih b (i + 1) (k + 1), List.cons_append, List.length_cons, show k + ((rl jit s (i + 1) a (k + 1)).length + 1) = k + 1 + (rl jit s (i + 1) a (k + 1)).length by omega]
    · exact ih b (i + 1) k
theorem rl_len : ∀ (ps : List Int) (i : Int) (k : Nat), (rl jit s i ps k).length ≤ ps.length := by
  intro ps
  induction ps with
  | nil => intro i k; exact Nat.le_refl _
  | cons p ps ih =>
    intro i k
    have h1 := ih (i + 1) (k + 1)
    have h2 := ih (i + 1) k
    rw [rl]
    split <;> simp <;> omega
theorem rl_split (ps : List Int) (i k : Nat) (h : i < ps.length) : rl jit s 0 (ps.take (i + 1)) k = rl jit s 0 (ps.take i) k ++ (if s % ps.getD i 0 = 0 then [⟨i, s, s + jit (k + (rl jit s 0 (ps.take i) k).length)⟩] else []) := by
  have ht : (ps.take i).length = i := by rw [List.length_take]; omega
  have e1 : ps.take (i + 1) = ps.take i ++ [ps.getD i 0] := by
    rw [List.getD_eq_getElem?_getD, List.getElem?_eq_getElem h]
    exact List.take_succ_eq_append_getElem h
  rw [e1, rl_append, ht, Int.zero_add, rl]
  split <;> rfl
/-- the jitters that are told -/
def pkd (R : List W3) : List Int := R.map (fun x => x.a - s)
theorem rel_perm (hj : ∀ k, 0 ≤ jit k ∧ jit k ≤ 1048576) : ∀ (ps : List Int) (i : Int) (k : Nat) (ws : List W3), (rel s i ps (pkd s (rl jit s i ps k)) ws).Perm (ws ++ rl jit s i ps k) := by
  intro ps
  induction ps with
  | nil => intro i k ws; simp [rel, rl]
  | cons p ps ih =>
    intro i k ws
    rw [rel, rl]
    split
    · have e : late (pkd s (⟨i, s, s + jit k⟩ :: rl jit s (i + 1) ps (k + 1))) = jit k := by
        show clamp (s + jit k - s) = jit k
        have := hj k
        unfold clamp
        omega
      rw [e]
      refine (ih (i + 1) (k + 1) _).trans ?_
      refine ((ins_perm _ ws).append_right _).trans ?_
      rw [List.cons_append]
      exact List.perm_middle.symm
    · exact ih (i + 1) k ws
theorem rl_late (hj : ∀ k, 0 ≤ jit k ∧ jit k ≤ 1048576) : ∀ (ps : List Int) (i : Int) (k : Nat), ∀ x ∈ rl jit s i ps k, s ≤ x.a := by
  intro ps
  induction ps with
  | nil => intro i k x hx; cases hx
  | cons p ps ih =>
    intro i k x hx
    rw [rl] at hx
    split at hx
    · rcases List.mem_cons.1 hx with rfl | hx
      · have := hj k
        show s ≤ s + jit k
        omega
      · exact ih _ _ x hx
    · exact ih _ _ x hx
/-- one slot -/
theorem once_slot (hj : ∀ k, 0 ≤ jit k ∧ jit k ≤ 1048576) (ps : List Int) (k : Nat) (ws : List W3) (hw : ∀ x ∈ ws, s ≤ x.a) :
    (told s (rel s 0 ps (pkd s (rl jit s 0 ps k)) ws) ++ left s (rel s 0 ps (pkd s (rl jit s 0 ps k)) ws)).Perm (ws ++ rl jit s 0 ps k) ∧ (∀ x ∈ told s (rel s 0 ps (pkd s (rl jit s 0 ps k)) ws), x.a = s) ∧ (∀ x ∈ left s (rel s 0 ps (pkd s (rl jit s 0 ps k)) ws), s + 1 ≤ x.a) := by
  have hp := rel_perm jit s hj ps 0 k ws
  generalize rel s 0 ps (pkd s (rl jit s 0 ps k)) ws = L at *
  have hL : ∀ x ∈ L, s ≤ x.a := by
    intro x hx
    rcases List.mem_append.1 (hp.mem_iff.1 hx) with h | h
    · exact hw x h
    · exact rl_late jit s hj ps 0 k x h
  refine ⟨(List.filter_append_perm _ L).trans hp, fun x hx => ?_, fun x hx => ?_⟩
  · obtain ⟨h1, h2⟩ := List.mem_filter.1 hx
    have := hL x h1
    have := of_decide_eq_true h2
    omega
  · obtain ⟨h1, h2⟩ := List.mem_filter.1 hx
    simp at h2
    omega
end
def enc3 (x : W3) : List Int := [x.t, x.n, x.a]
theorem enc3_len (l : List W3) : (l.flatMap enc3).length = 3 * l.length := by
  induction l with
  | nil => rfl
  | cons x l ih => rw [List.flatMap_cons, List.length_append, ih, List.length_cons]; show 3 + _ = _; omega
theorem enc3_get (l : List W3) (m : Nat) (x : W3) (h : l[m]? = some x) : (l.flatMap enc3)[3 * m]? = some x.t ∧ (l.flatMap enc3)[3 * m + 1]? = some x.n ∧ (l.flatMap enc3)[3 * m + 2]? = some x.a := by
  induction l generalizing m with
  | nil => simp at h
  | cons y l ih =>
    rw [List.flatMap_cons]
    cases m with
    | zero =>
      rw [List.getElem?_cons_zero] at h
      injection h with h
      subst h
      exact ⟨rfl, rfl, rfl⟩
    | succ m =>
      rw [List.getElem?_cons_succ] at h
      have := ih m h
      have e : (enc3 y).length = 3 := rfl
      refine ⟨?_, ?_, ?_⟩
      · rw [List.getElem?_append_right (by omega), e, show 3 * (m + 1) - 3 = 3 * m by omega]; exact this.1
      · rw [List.getElem?_append_right (by omega), e, show 3 * (m + 1) + 1 - 3 = 3 * m + 1 by omega]; exact this.2.1
      · rw [List.getElem?_append_right (by omega), e, show 3 * (m + 1) + 2 - 3 = 3 * m + 2 by omega]; exact this.2.2
/-- behind the slots: T is told, ws waits, W was released -/
structure Once (ps : List Int) (s : Nat) (ws T W : List W3) : Prop where
  perm : (T ++ ws).Perm W
  wait : ∀ x ∈ ws, (s : Int) ≤ x.a
  len : W.length ≤ 8 * s
theorem Once.start (ps : List Int) : Once ps 0 [] [] [] := ⟨List.Perm.refl _, by simp, by simp⟩
theorem Once.next {jit : Nat → Int} (hj : ∀ k, 0 ≤ jit k ∧ jit k ≤ 1048576) {ps : List Int} (hp : PsOk ps) {s : Nat} {ws T W : List W3} (h : Once ps s ws T W) (k : Nat) :
    Once ps (s + 1) (left s (rel s 0 ps (pkd s (rl jit s 0 ps k)) ws)) (T ++ told s (rel s 0 ps (pkd s (rl jit s 0 ps k)) ws)) (W ++ rl jit s 0 ps k) ∧ ∀ x ∈ told s (rel s 0 ps (pkd s (rl jit s 0 ps k)) ws), x.a = s := by
  obtain ⟨h1, h2, h3⟩ := once_slot jit s hj ps k ws h.wait
  refine ⟨⟨?_, fun x hx => by have := h3 x hx; omega, ?_⟩, h2⟩
  · rw [List.append_assoc]
    refine (h1.append_left T).trans ?_
    rw [← List.append_assoc]
    exact h.perm.append_right _
  · have := h.len
    have := rl_len jit s ps 0 k
    have := hp.le
    rw [List.length_append]
    omega
theorem Once.total {ps : List Int} {s : Nat} {ws T W : List W3} (h : Once ps s ws T W) : T.length + ws.length = W.length := by
  have := h.perm.length_eq
  rw [List.length_append] at this
  exact this
theorem Once.found {ps : List Int} {s : Nat} {ws T W : List W3} (h : Once ps s ws T W) (i : Nat) (x : W3) (hx : T[i]? = some x) : ∃ m : Nat, m < W.length ∧ W[m]? = some x := by
  have h1 : x ∈ W := h.perm.mem_iff.1 (List.mem_append_left _ (List.mem_of_getElem? hx))
  obtain ⟨m, hm, e⟩ := List.getElem_of_mem h1
  exact ⟨m, hm, by rw [List.getElem?_eq_getElem hm, e]⟩
theorem told_len2 {ps : List Int} {now : Nat} {ws : List W3} (h : Good ps now ws) (hp : PsOk ps) (qs : List Int) (hn : now < 256) : ((told now (rel now 0 ps qs ws)).map W3.due).length ≤ 3000 := by
  have hm := rel_mid ps now hp.le ps qs 0 ws (by omega) h.mid
  rw [show ((0 : Nat) : Int) = 0 from rfl] at hm
  have h1 : (told now (rel now 0 ps qs ws)).length ≤ (rel now 0 ps qs ws).length := List.length_filter_le _ _
  have := hm.len
  have := hp.le
  rw [List.length_map]
  omega
theorem Once.bounds {ps : List Int} {s : Nat} {ws T W : List W3} (h : Once ps s ws T W) (hs : s ≤ 256) : T.length ≤ 2048 ∧ ws.length ≤ 2048 ∧ W.length ≤ 2048 := by
  have := h.total
  have := h.len
  omega
theorem tell_next {s : Nat} {d : List S48} {D0 D : List S48} {E0 E : List Int} {i : Nat} (hi : i < d.length) (hD : D = D0 ++ d.take i) (hE : E = E0 ++ List.replicate i (s : Int)) : D ++ [d.getD i z48] = D0 ++ d.take (i + 1) ∧ E ++ [(s : Int)] = E0 ++ List.replicate (i + 1) (s : Int) := by
  constructor
  · rw [hD, take_snocS d i hi, List.append_assoc]
  · rw [hE, List.append_assoc, List.replicate_succ']
theorem rep_told {s : Int} {tt : List W3} (h : ∀ x ∈ tt, x.a = s) : List.replicate tt.length s = tt.map W3.a := by
  induction tt with
  | nil => rfl
  | cons x l ih =>
    rw [List.length_cons, List.replicate_succ, List.map_cons, h x (by simp), ih (fun y hy => h y (by simp [hy]))]
theorem gather_next {jit : Nat → Int} {s : Int} {ps : List Int} {k0 i k : Nat} {Q F0 F : List Int} (hsp : rl jit s 0 (ps.take (i + 1)) k0 = rl jit s 0 (ps.take i) k0 ++ [⟨i, s, s + jit k⟩]) (hQ : Q = pkd s (rl jit s 0 (ps.take i) k0)) (hF : F = F0 ++ (rl jit s 0 (ps.take i) k0).flatMap enc3) (hk : k = k0 + (rl jit s 0 (ps.take i) k0).length) :
    Q ++ [jit k] = pkd s (rl jit s 0 (ps.take (i + 1)) k0) ∧ F ++ [(i : Int), s, s + jit k] = F0 ++ (rl jit s 0 (ps.take (i + 1)) k0).flatMap enc3 ∧ k + 1 = k0 + (rl jit s 0 (ps.take (i + 1)) k0).length := by
  rw [hsp]
  refine ⟨?_, ?_, ?_⟩
  · rw [hQ]
    unfold pkd
    rw [List.map_append, List.map_cons, List.map_nil, show s + jit k - s = jit k by omega]
  · rw [hF, List.flatMap_append, List.append_assoc]
    rfl
  · rw [List.length_append, hk]
    rfl
/-- the jitter of the k-th release, as it is read -/
def jitOf (w : World) (A : Option Addr) (m k : Nat) : Int := if k < m then (match A with
  | some ad => (match w.cell? (ad.add k) with
    | some (.int .u8 v) => v
    | _ => 0)
  | none => 0) else 0
theorem jit_at {w : World} {A : Option Addr} {m : Nat} (hJ : ∀ k, k < m → ∃ ad v, A = some ad ∧ w.cell? (ad.add k) = some (.int .u8 v) ∧ 0 ≤ v ∧ v < 256) {k : Nat} (hk : k < m) : ∃ ad, A = some ad ∧ w.cell? (ad.add k) = some (.int .u8 (jitOf w A m k)) ∧ 0 ≤ jitOf w A m k ∧ jitOf w A m k < 256 := by
  obtain ⟨ad, v, rfl, h1, h2⟩ := hJ k hk
  have e : jitOf w (some ad) m k = v := by unfold jitOf; rw [if_pos hk]; simp only [h1]
  rw [e]
  exact ⟨ad, rfl, h1, h2⟩
theorem jit_no {w : World} {A : Option Addr} {m k : Nat} (hk : ¬ k < m) : jitOf w A m k = 0 := by unfold jitOf; rw [if_neg hk]
theorem jit_bd {w : World} {A : Option Addr} {m : Nat} (hJ : ∀ k, k < m → ∃ ad v, A = some ad ∧ w.cell? (ad.add k) = some (.int .u8 v) ∧ 0 ≤ v ∧ v < 256) (k : Nat) : 0 ≤ jitOf w A m k ∧ jitOf w A m k < 256 := by
  by_cases hk : k < m
  · obtain ⟨_, _, _, h⟩ := jit_at hJ hk
    exact h
  · rw [jit_no hk]
    decide
theorem int_cell {w0 W : World} {L : List Asn} {A : Option Addr} {n c : Nat} {l : List Int} (h : Has w0 W L) (hd : intA (.slice A n c) l ∈ L) (hn : l.length = n) (k : Nat) (x : Int) (hx : l[k]? = some x) : ∃ b, A = some ⟨b, 0, none⟩ ∧ W.cell? ⟨b, k, none⟩ = some (.int .i64 x) := by
  subst hn
  obtain ⟨_, ⟨_, hr⟩, _⟩ := h.get hd
  have hk : k < l.length := (List.getElem?_eq_some_iff.1 hx).1
  rcases hr.2 with ⟨_, h3⟩ | ⟨b, cap, cur, h3, _⟩
  · omega
  · injection h3 with h3 _ _
    subst h3
    have := LRow.cell hr k (.int .i64 x) (by rw [List.getElem?_map, hx]; rfl)
    rw [add_plain] at this
    exact ⟨b, rfl, this⟩
/-- a release that is written out -/
theorem Has.dues {w0 W : World} {L : List Asn} (h : Has w0 W L) (x : S48) : Has w0 (W.alloc (.cells #[.int .i64 x.f0, .int .i64 x.f1] 48)) (dueA (.slice (some ⟨W.heap.size, 0, none⟩) 1 1) [x] :: L) :=
  h.add ((Below.refl _ _).alloc (Nat.le_refl _) _) [W.heap.size] (by simp) ⟨rfl, by simp [enc2], .inr ⟨_, 1, _, rfl, Nat.zero_le _, heap_alloc_new W _, by simp, by decide, by simp [enc2], by simp [enc2]⟩⟩
abbrev tmO (g pb pc : Nat) (ps : List Int) (s : Nat) (ws : List W3) : Asn := timA g (.slice (some ⟨pb, 0, none⟩) ps.length pc) s ws
abbrev paO (pb pc : Nat) (ps : List Int) : Asn := intA (.slice (some ⟨pb, 0, none⟩) ps.length pc) ps
def OnceRel (w : World) (g pb pc : Nat) (ps : List Int) (n : Nat) (vt va vk vw vs : Value) (wr : World) : Prop := ∃ (s : Nat) (ws T Wl : List W3) (k : Nat) (At Aa Aw : Option Addr) (ct ca cw : Nat) (D : List S48) (E F : List Int), s ≤ n ∧ vs = .int .i64 s ∧ vk = .int .i64 k ∧ vt = .slice At D.length ct ∧ va = .slice Aa E.length ca ∧ vw = .slice Aw F.length cw ∧
  D = T.map W3.due ∧ E = T.map W3.a ∧ F = Wl.flatMap enc3 ∧ Good ps s ws ∧ Once ps s ws T Wl ∧ k ≤ 8 * s ∧
  Has w wr [intA (.slice Aw F.length cw) F, dueA (.slice At D.length ct) D, intA (.slice Aa E.length ca) E, tmO g pb pc ps s ws, paO pb pc ps]
/-- within a slot: what the first i periods release -/
def GatherRel (w : World) (jit : Nat → Int) (ps : List Int) (s k0 : Nat) (F0 : List Int) (L : List Asn) (vk vw vq vi : Value) (wr : World) : Prop := ∃ (i : Nat) (Aq Aw : Option Addr) (cq cw k : Nat) (Q F : List Int), i ≤ ps.length ∧ vi = .int .i64 i ∧ vk = .int .i64 k ∧ vq = .slice Aq Q.length cq ∧ vw = .slice Aw F.length cw ∧
  Q = pkd s (rl jit s 0 (ps.take i) k0) ∧ F = F0 ++ (rl jit s 0 (ps.take i) k0).flatMap enc3 ∧ k = k0 + (rl jit s 0 (ps.take i) k0).length ∧ Q.length ≤ i ∧ F.length = F0.length + 3 * Q.length ∧ k = k0 + Q.length ∧
  Has w wr (intA (.slice Aq Q.length cq) Q :: intA (.slice Aw F.length cw) F :: L)
def LookRel (w : World) (L : List Asn) (m : Nat) (vi : Value) (wr : World) : Prop := ∃ i : Nat, i ≤ m ∧ vi = .int .i64 i ∧ Has w wr L
def FindRel (w : World) (L : List Asn) (m m0 : Nat) (vo vm : Value) (wr : World) : Prop := ∃ (q : Nat) (b : Bool), q ≤ m ∧ vm = .int .i64 ((3 * q : Nat) : Int) ∧ vo = .bool b ∧ (m0 < q → b = true) ∧ Has w wr L
theorem near_ {r : Nat} (h : r < 6144) : wrap64 ((r : Int) + 1) = ((r + 1 : Nat) : Int) ∧ wrap64 ((r : Int) + 2) = ((r + 2 : Nat) : Int) := ⟨wrapIn (by omega), wrapIn (by omega)⟩
theorem late_ok {ps : List Int} {s : Nat} {ws : List W3} {dw : List S48} (hg : Good ps s ws) (hd : ws.map W3.due = dw) {j : Nat} (hj : j < dw.length) : (dw.getD j z48).f1 < (s : Int) ∧ 0 ≤ (dw.getD j z48).f0 ∧ (dw.getD j z48).f0 < (ps.length : Int) := by
  subst hd
  rw [List.length_map] at hj
  rw [due_getD]
  have e1 : ws.getD j z3 = ws[j] := by rw [List.getD_eq_getElem?_getD, List.getElem?_eq_getElem hj]; rfl
  rw [e1]
  have h1 := hg.nom _ (List.getElem_mem hj)
  have h2 := hg.task _ (List.getElem_mem hj)
  exact ⟨h1.2, h2.1, h2.2⟩
/-- within a slot: what is told -/
def TellRel (w : World) (s : Nat) (d : List S48) (D0 : List S48) (E0 : List Int) (LL : Asn → Asn → List Asn) (vt va vi : Value) (wr : World) : Prop := ∃ (i : Nat) (At Aa : Option Addr) (ct ca : Nat) (D : List S48) (E : List Int), i ≤ d.length ∧ vi = .int .i64 i ∧ vt = .slice At D.length ct ∧ va = .slice Aa E.length ca ∧
  D = D0 ++ d.take i ∧ E = E0 ++ List.replicate i (s : Int) ∧ D.length = D0.length + i ∧ E.length = E0.length + i ∧
  Has w wr (LL (dueA (.slice At D.length ct) D) (intA (.slice Aa E.length ca) E))
set_option maxRecDepth 100000 in
set_option maxHeartbeats 8000000 in
theorem once_core (A : Option Addr) (c : Nat) (ps : List Int) (A' : Option Addr) (m c' n : Nat) (w : World) (hq : PkAt w A c ps) (hok : PsOk ps) (hm : (m : Int) < 9223372036854775808) (hJ : ∀ k, k < m → ∃ ad v, A' = some ad ∧ w.cell? (ad.add k) = some (.int .u8 v) ∧ 0 ≤ v ∧ v < 256) (hn : n < 256) : Calls Try.prog 4 #[.slice A ps.length c, .slice A' m c', .int .u8 (n : Int)] w fun e w' => e = .returned (.bool true) ∧ Below w.heap.size w w' := by
  have H0 := Lib.hid (Has.empty (Below.refl w.heap.size w))
  have HQ := Lib.hid hq
  have HJ := Lib.hid hJ
  have hps8 := hok.le
  have e1 : decide ((8 : Int) < (ps.length : Int)) = false := decide_eq_false (by omega)
  have N1 := Lib.hid (newH H0.out hq hok)
  have HK := Lib.hid hok
  have hwv : wrap64 (n : Int) = (n : Int) := wrapIn (by omega)
  clear hok hq hJ
  go_enter Try.func4, Try.ntmps4
  go_wp2_with fail
  refine N1.out.mono ?_
  rintro e w1 ⟨g, pb, pc, rfl, H1⟩
  have H2 := Lib.hid (show Has w w1 [intA (.slice none 0 0) [], dueA (.slice none 0 0) [], intA (.slice none 0 0) [], tmO g pb pc ps 0 [], paO pb pc ps] from intA_nil _ _ (dueA_nil _ _ (intA_nil _ _ H1)))
  clear N1
  go_wp2_with fail
  go_loopw [9, 10, 11, 12, 14] (fun vt va vk vw vs wr => OnceRel w g pb pc ps n vt va vk vw vs wr) (fun _ _ _ _ vs _ => n - (intOf vs).toNat)
  case atStart => exact ⟨0, [], [], [], 0, none, none, none, 0, 0, 0, [], [], [], Nat.zero_le _, rfl, rfl, rfl, rfl, rfl, rfl, rfl, rfl, Good.start _, Once.start _, Nat.zero_le _, H2.out⟩
  case round =>
    obtain ⟨s, ws, T, Wl, k, At, Aa, Aw, ct, ca, cw, D, E, F, hs, rfl, rfl, rfl, rfl, rfl, hD, hE, hF, hgd, hon, hk, HS⟩ := hrel
    replace HS := Lib.hid HS
    clear H2
    by_cases hsn : s < n
    · have hsn' : (s : Int) < (n : Int) := Int.ofNat_lt.2 hsn
      have hs256 : s < 256 := Nat.lt_trans hsn hn
      have HQ2 := Lib.hid (HQ.out.step HS.out.below)
      have hk0 : k ≤ 2048 := by omega
      replace hk := Lib.hid hk
      have H3 := Lib.hid (show Has w wr (intA (.slice none 0 0) [] :: intA (.slice Aw F.length cw) F :: [dueA (.slice At D.length ct) D, intA (.slice Aa E.length ca) E, tmO g pb pc ps s ws, paO pb pc ps]) from intA_nil _ _ HS.out)
      have hFl : F.length ≤ 100000 := by rw [hF, enc3_len]; have := hon.len; omega
      replace hgd := Lib.hid hgd
      replace hon := Lib.hid hon
      replace hF := Lib.hid hF
      replace hD := Lib.hid hD
      replace hE := Lib.hid hE
      have hn2 := Lib.hid hn
      clear hn hs
      go_wp2_with fail
      go_loopw [11, 12, 15, 16] (fun vk vw vq vi wr => GatherRel w (jitOf w A' m) ps s k F [dueA (.slice At D.length ct) D, intA (.slice Aa E.length ca) E, tmO g pb pc ps s ws, paO pb pc ps] vk vw vq vi wr) (fun _ _ _ vi _ => ps.length - (intOf vi).toNat)
      case atStart => exact ⟨0, none, Aw, 0, cw, k, [], F, Nat.zero_le _, rfl, rfl, rfl, rfl, rfl, by simp [rl], by simp [rl], Nat.le_refl _, rfl, rfl, H3.out⟩
      case round =>
        obtain ⟨i, Aq, Aw1, cq, cw1, k1, Q, F1, hi, rfl, rfl, rfl, rfl, hQ, hF1, hk1, hQi, hFQ, hkQ, H4⟩ := hrel
        replace H4 := Lib.hid H4
        clear H3 HS
        by_cases hin : i < ps.length
        · have hin' : (i : Int) < (ps.length : Int) := Int.ofNat_lt.2 hin
          have hi8 : i < 8 := by omega
          obtain ⟨ad, rfl, hcell0⟩ := HQ.out.2 i hin
          have hcell := (H4.out.below.cell (World.block_lt_of_cell? w _ hcell0)).trans hcell0
          have hsp := rl_split (jitOf w A' m) s ps i k hin
          have hpm : ps.getD i 0 ∈ ps := by rw [List.getD_eq_getElem?_getD, List.getElem?_eq_getElem hin]; exact List.getElem_mem hin
          obtain ⟨hp1, hp2⟩ := HK.out.each _ hpm
          clear hcell0 hpm
          generalize ps.getD i 0 = p at *
          have hp0 : (p == 0) = false := beq_eq_false_iff_ne.mpr (by omega)
          have hin3 := Lib.hid hin
          by_cases hm1 : (s : Int) % p = 0
          · have t2 : ((s : Int) % p == 0) = true := by simp [hm1]
            rw [if_pos hm1, ← hk1] at hsp
            obtain ⟨g1, g2, g3⟩ := gather_next (s := (s : Int)) hsp hQ hF1 hk1
            obtain ⟨hj0, hj1⟩ := jit_bd HJ.out k1
            have hk1b : k1 < 3000 := by omega
            have hQl : Q.length ≤ 8 := by omega
            have hFl1 : F1.length ≤ 100100 := by omega
            replace hFQ := Lib.hid hFQ
            replace hkQ := Lib.hid hkQ
            replace hm1 := Lib.hid hm1
            clear hsp hQ hF1 hk1 hi hin
            by_cases hkm : k1 < m
            · have hkm' : (k1 : Int) < (m : Int) := Int.ofNat_lt.2 hkm
              have tkm : decide (m ≤ k1) = false := decide_eq_false (by omega)
              obtain ⟨ad2, rfl, hcj, _⟩ := jit_at HJ.out hkm
              have hcell2 := (H4.out.below.cell (World.block_lt_of_cell? w _ hcj)).trans hcj
              clear hcj
              generalize hjj : jitOf w (some ad2) m k1 = j at *
              replace g1 := Lib.hid g1
              replace g2 := Lib.hid g2
              replace g3 := Lib.hid g3
              replace hjj := Lib.hid hjj
              replace hkm := Lib.hid hkm
              have K0 := Lib.hid (Has.ints (L := [] ++ intA (.slice Aq Q.length cq) Q :: (intA (.slice Aw1 F1.length cw1) F1 :: [dueA (.slice At D.length ct) D, intA (.slice Aa E.length ca) E, tmO g pb pc ps s ws, paO pb pc ps])) H4.out [j] (by simp))
              go_wp2_with (first | (at_builtin; refine wpList_append_row _ rfl (.tmp 76) (.tmp 78) 22 3 _ 1 8 rfl Try.underlying22 info3 rfl (by decide) (by decide) (.slice Aq Q.length cq) Q.length (Q.map (Value.int .i64)) ([j].map (Value.int .i64)) (some ⟨wr.heap.size, 0, none⟩) 1 1 rfl rfl (one_ints [j]) ?hO ?hD ?len ?go) | fail)
              case hO => exact Has.row K0.out (by simp [intA])
              case hD => exact Has.row K0.out (by simp [intA])
              case len => omega
              case go =>
                intro v1 wrb hrow hg hat
                have K1 := Has.grow (L1 := intA (.slice (some ⟨wr.heap.size, 0, none⟩) 1 1) [j] :: []) (L2 := (intA (.slice Aw1 F1.length cw1) F1 :: [dueA (.slice At D.length ct) D, intA (.slice Aa E.length ca) E, tmO g pb pc ps s ws, paO pb pc ps])) (v := .slice Aq Q.length cq) K0.out hg hrow (hat.imp id (fun h => by simpa using h))
                replace K1 := (intA_app v1 Q [j]) ▸ K1
                obtain ⟨Awr, cwr, rfl, hcwr⟩ := LRow.slice hrow
                clear hrow hg hat K0
                have H5 := Lib.hid (show Has w wrb (intA (.slice Awr (Q.length + 1) cwr) (Q ++ [j]) :: intA (.slice Aw1 F1.length cw1) F1 :: [dueA (.slice At D.length ct) D, intA (.slice Aa E.length ca) E, tmO g pb pc ps s ws, paO pb pc ps]) from K1.sub ((List.Sublist.refl _).cons _))
                clear K1 H4
                have K0 := Lib.hid (Has.ints (L := [intA (.slice Awr (Q.length + 1) cwr) (Q ++ [j])] ++ intA (.slice Aw1 F1.length cw1) F1 :: [dueA (.slice At D.length ct) D, intA (.slice Aa E.length ca) E, tmO g pb pc ps s ws, paO pb pc ps]) H5.out [(i : Int), (s : Int), (s : Int) + j] (by simp))
                go_wp2_with (first | (at_builtin; refine wpList_append_row _ rfl (.tmp 80) (.tmp 86) 22 3 _ 1 8 rfl Try.underlying22 info3 rfl (by decide) (by decide) (.slice Aw1 F1.length cw1) F1.length (F1.map (Value.int .i64)) ([(i : Int), (s : Int), (s : Int) + j].map (Value.int .i64)) (some ⟨wrb.heap.size, 0, none⟩) 3 3 rfl rfl (one_ints [(i : Int), (s : Int), (s : Int) + j]) ?hO ?hD ?len ?go) | fail)
                case hO => exact Has.row K0.out (by simp [intA])
                case hD => exact Has.row K0.out (by simp [intA])
                case len => omega
                case go =>
                  intro v1 wrbb hrow hg hat
                  have K1 := Has.grow (L1 := intA (.slice (some ⟨wrb.heap.size, 0, none⟩) 3 3) [(i : Int), (s : Int), (s : Int) + j] :: [intA (.slice Awr (Q.length + 1) cwr) (Q ++ [j])]) (L2 := [dueA (.slice At D.length ct) D, intA (.slice Aa E.length ca) E, tmO g pb pc ps s ws, paO pb pc ps]) (v := .slice Aw1 F1.length cw1) K0.out hg hrow (hat.imp id (fun h => by simpa using h))
                  replace K1 := (intA_app v1 F1 [(i : Int), (s : Int), (s : Int) + j]) ▸ K1
                  obtain ⟨Awrb, cwrb, rfl, hcwrb⟩ := LRow.slice hrow
                  clear hrow hg hat K0
                  have H6 := Lib.hid (show Has w wrbb (intA (.slice Awr (Q ++ [j]).length cwr) (Q ++ [j]) :: intA (.slice Awrb (F1 ++ [(i : Int), (s : Int), (s : Int) + j]).length cwrb) (F1 ++ [(i : Int), (s : Int), (s : Int) + j]) :: [dueA (.slice At D.length ct) D, intA (.slice Aa E.length ca) E, tmO g pb pc ps s ws, paO pb pc ps]) from by
                    rw [List.length_append, List.length_append]
                    exact K1.sub ((List.Sublist.refl _).cons _))
                  clear K1
                  go_wp2_with fail
                  go_roundw
                  case rel => exact ⟨i + 1, Awr, Awrb, cwr, cwrb, k1 + 1, _, _, hin3.out, by go_num, by go_num, by rw [List.length_append]; rfl, by rw [List.length_append]; rfl, g1.out, g2.out, g3.out, by rw [List.length_append]; show Q.length + 1 ≤ _; omega, by have := hFQ.out; rw [List.length_append, List.length_append]; show F1.length + 3 = F.length + 3 * (Q.length + 1); omega, by have := hkQ.out; rw [List.length_append]; show k1 + 1 = k + (Q.length + 1); omega, H6.out⟩
                  case measure => have := hin3.out; simp [intOf]; omega
            · have hkm' : ¬ (k1 : Int) < (m : Int) := fun h => hkm (Int.ofNat_lt.1 h)
              have hj3 := jit_no (w := w) (A := A') hkm
              rw [hj3] at g1 g2
              have hj4 : (s : Int) + 0 = s := Int.add_zero _
              replace g1 := Lib.hid g1
              replace g2 := Lib.hid g2
              replace g3 := Lib.hid g3
              replace hkm := Lib.hid hkm
              clear hj3 hj4 hj0 hj1
              have K0 := Lib.hid (Has.ints (L := [] ++ intA (.slice Aq Q.length cq) Q :: (intA (.slice Aw1 F1.length cw1) F1 :: [dueA (.slice At D.length ct) D, intA (.slice Aa E.length ca) E, tmO g pb pc ps s ws, paO pb pc ps])) H4.out [0] (by simp))
              go_wp2_with (first | (at_builtin; refine wpList_append_row _ rfl (.tmp 76) (.tmp 78) 22 3 _ 1 8 rfl Try.underlying22 info3 rfl (by decide) (by decide) (.slice Aq Q.length cq) Q.length (Q.map (Value.int .i64)) ([0].map (Value.int .i64)) (some ⟨wr.heap.size, 0, none⟩) 1 1 rfl rfl (one_ints [0]) ?hO ?hD ?len ?go) | fail)
              case hO => exact Has.row K0.out (by simp [intA])
              case hD => exact Has.row K0.out (by simp [intA])
              case len => omega
              case go =>
                intro v1 wrb hrow hg hat
                have K1 := Has.grow (L1 := intA (.slice (some ⟨wr.heap.size, 0, none⟩) 1 1) [0] :: []) (L2 := (intA (.slice Aw1 F1.length cw1) F1 :: [dueA (.slice At D.length ct) D, intA (.slice Aa E.length ca) E, tmO g pb pc ps s ws, paO pb pc ps])) (v := .slice Aq Q.length cq) K0.out hg hrow (hat.imp id (fun h => by simpa using h))
                replace K1 := (intA_app v1 Q [0]) ▸ K1
                obtain ⟨Awr, cwr, rfl, hcwr⟩ := LRow.slice hrow
                clear hrow hg hat K0
                have H5 := Lib.hid (show Has w wrb (intA (.slice Awr (Q.length + 1) cwr) (Q ++ [0]) :: intA (.slice Aw1 F1.length cw1) F1 :: [dueA (.slice At D.length ct) D, intA (.slice Aa E.length ca) E, tmO g pb pc ps s ws, paO pb pc ps]) from K1.sub ((List.Sublist.refl _).cons _))
                clear K1 H4
                have K0 := Lib.hid (Has.ints (L := [intA (.slice Awr (Q.length + 1) cwr) (Q ++ [0])] ++ intA (.slice Aw1 F1.length cw1) F1 :: [dueA (.slice At D.length ct) D, intA (.slice Aa E.length ca) E, tmO g pb pc ps s ws, paO pb pc ps]) H5.out [(i : Int), (s : Int), (s : Int) + 0] (by simp))
                go_wp2_with (first | (at_builtin; refine wpList_append_row _ rfl (.tmp 80) (.tmp 86) 22 3 _ 1 8 rfl Try.underlying22 info3 rfl (by decide) (by decide) (.slice Aw1 F1.length cw1) F1.length (F1.map (Value.int .i64)) ([(i : Int), (s : Int), (s : Int) + 0].map (Value.int .i64)) (some ⟨wrb.heap.size, 0, none⟩) 3 3 rfl rfl (one_ints [(i : Int), (s : Int), (s : Int) + 0]) ?hO ?hD ?len ?go) | fail)
                case hO => exact Has.row K0.out (by simp [intA])
                case hD => exact Has.row K0.out (by simp [intA])
                case len => omega
                case go =>
                  intro v1 wrbb hrow hg hat
                  have K1 := Has.grow (L1 := intA (.slice (some ⟨wrb.heap.size, 0, none⟩) 3 3) [(i : Int), (s : Int), (s : Int) + 0] :: [intA (.slice Awr (Q.length + 1) cwr) (Q ++ [0])]) (L2 := [dueA (.slice At D.length ct) D, intA (.slice Aa E.length ca) E, tmO g pb pc ps s ws, paO pb pc ps]) (v := .slice Aw1 F1.length cw1) K0.out hg hrow (hat.imp id (fun h => by simpa using h))
                  replace K1 := (intA_app v1 F1 [(i : Int), (s : Int), (s : Int) + 0]) ▸ K1
                  obtain ⟨Awrb, cwrb, rfl, hcwrb⟩ := LRow.slice hrow
                  clear hrow hg hat K0
                  have H6 := Lib.hid (show Has w wrbb (intA (.slice Awr (Q ++ [0]).length cwr) (Q ++ [0]) :: intA (.slice Awrb (F1 ++ [(i : Int), (s : Int), (s : Int) + 0]).length cwrb) (F1 ++ [(i : Int), (s : Int), (s : Int) + 0]) :: [dueA (.slice At D.length ct) D, intA (.slice Aa E.length ca) E, tmO g pb pc ps s ws, paO pb pc ps]) from by
                    rw [List.length_append, List.length_append]
                    exact K1.sub ((List.Sublist.refl _).cons _))
                  clear K1
                  go_wp2_with fail
                  go_roundw
                  case rel => exact ⟨i + 1, Awr, Awrb, cwr, cwrb, k1 + 1, _, _, hin3.out, by go_num, by go_num, by rw [List.length_append]; rfl, by rw [List.length_append]; rfl, g1.out, g2.out, g3.out, by rw [List.length_append]; show Q.length + 1 ≤ _; omega, by have := hFQ.out; rw [List.length_append, List.length_append]; show F1.length + 3 = F.length + 3 * (Q.length + 1); omega, by have := hkQ.out; rw [List.length_append]; show k1 + 1 = k + (Q.length + 1); omega, H6.out⟩
                  case measure => have := hin3.out; simp [intOf]; omega
          · have t2 : ((s : Int) % p == 0) = false := by simp [hm1]
            rw [if_neg hm1, List.append_nil] at hsp
            rw [← hsp] at hQ hF1 hk1
            replace hQ := Lib.hid hQ
            replace hF1 := Lib.hid hF1
            replace hk1 := Lib.hid hk1
            replace hm1 := Lib.hid hm1
            replace hFQ := Lib.hid hFQ
            replace hkQ := Lib.hid hkQ
            clear hsp hi hin
            go_wp2_with fail
            go_roundw
            case rel => exact ⟨i + 1, Aq, Aw1, cq, cw1, k1, Q, F1, hin3.out, by go_num, rfl, rfl, rfl, hQ.out, hF1.out, hk1.out, Nat.le_succ_of_le hQi, hFQ.out, hkQ.out, H4.out⟩
            case measure => have := hin3.out; simp [intOf]; omega
        · have e0 : ¬ ((i : Int) < (ps.length : Int)) := fun h => hin (Int.ofNat_lt.1 h)
          obtain rfl : i = ps.length := by omega
          rw [List.take_length] at hQ hF1 hk1
          have hQ8 : Q.length ≤ 8 := by omega
          obtain ⟨_, hrow, _⟩ := H4.out.get (a := intA (.slice Aq Q.length cq) Q) (by simp)
          have N3 := tickH (ps := ps) (qs := Q) (now := s) (L1 := [intA (.slice Aq Q.length cq) Q, intA (.slice Aw1 F1.length cw1) F1, dueA (.slice At D.length ct) D, intA (.slice Aa E.length ca) E]) (L2 := [paO pb pc ps]) H4.out (by simp) HK.out hgd.out (by omega) (pk_at hrow) (by omega)
          obtain ⟨hnx, hat⟩ := hon.out.next (jit := jitOf w A' m) (fun x => by have := jit_bd HJ.out x; omega) HK.out k
          rw [← hQ] at hnx hat
          have hgn := hgd.out.next HK.out Q
          have hdl := told_len2 hgd.out HK.out Q hs256
          obtain ⟨hT, _, hWl⟩ := hon.out.bounds (by omega)
          have hDl : D.length ≤ 2048 := by rw [hD.out, List.length_map]; exact hT
          have hEl : E.length ≤ 2048 := by rw [hE.out, List.length_map]; exact hT
          generalize told (s : Int) (rel s 0 ps Q ws) = tt at *
          generalize left (s : Int) (rel s 0 ps Q ws) = ws2 at *
          generalize hdd : tt.map W3.due = dl at *
          replace N3 := Lib.hid N3
          replace hdd := Lib.hid hdd
          replace hnx := Lib.hid hnx
          replace hat := Lib.hid hat
          replace hgn := Lib.hid hgn
          have hFin : F1 = (Wl ++ rl (jitOf w A' m) s 0 ps k).flatMap enc3 := by rw [List.flatMap_append, ← hF.out]; exact hF1
          replace hFin := Lib.hid hFin
          have hkk : k1 ≤ 8 * (s + 1) := by have := hk.out; omega
          replace hkk := Lib.hid hkk
          clear hrow hQ hF1 hk1 hFQ hkQ hT hWl hin hi hQi
          go_wp2_with fail
          refine N3.out.mono ?_
          rintro e w3 ⟨A3, c3, hc3, rfl, H5⟩
          have H6 := Lib.hid (H5.sub (M := [dueA (.slice A3 dl.length c3) dl, intA (.slice Aw1 F1.length cw1) F1, dueA (.slice At D.length ct) D, intA (.slice Aa E.length ca) E, tmO g pb pc ps (s + 1) ws2, paO pb pc ps]) (.cons_cons _ (.cons _ (List.Sublist.refl _))))
          replace hc3 := Lib.hid hc3
          clear H4 H5 N3
          go_wp2_with fail
          go_loopw [9, 10, 19] (fun vt va vi wr => TellRel w s dl D E (fun x y => [dueA (.slice A3 dl.length c3) dl, intA (.slice Aw1 F1.length cw1) F1, x, y, tmO g pb pc ps (s + 1) ws2, paO pb pc ps]) vt va vi wr) (fun _ _ vi _ => dl.length - (intOf vi).toNat)
          case atStart => exact ⟨0, At, Aa, ct, ca, D, E, Nat.zero_le _, rfl, rfl, rfl, by simp, by simp, rfl, rfl, H6.out⟩
          case round =>
            obtain ⟨i, At1, Aa1, ct1, ca1, D1, E1, hi, rfl, rfl, rfl, hD1, hE1, hD1l, hE1l, H7⟩ := hrel
            replace H7 := Lib.hid (show Has w wr [dueA (.slice A3 dl.length c3) dl, intA (.slice Aw1 F1.length cw1) F1, dueA (.slice At1 D1.length ct1) D1, intA (.slice Aa1 E1.length ca1) E1, tmO g pb pc ps (s + 1) ws2, paO pb pc ps] from H7)
            clear H6
            by_cases hin : i < dl.length
            · have hin' : (i : Int) < (dl.length : Int) := Int.ofNat_lt.2 hin
              have tk1 : decide (dl.length ≤ i) = false := decide_eq_false (Nat.not_le.2 hin)
              have hi3 : i < 3000 := Nat.lt_of_lt_of_le hin hdl
              obtain ⟨b3, rfl, x0, x1⟩ := due_cells (A := A3) (c := c3) H7.out (by simp) i _ (get_z dl i hin)
              obtain ⟨g1, g2⟩ := tell_next (s := s) hin hD1 hE1
              have hD1l2 : D1.length ≤ 6000 := by omega
              have hE1l2 : E1.length ≤ 6000 := by omega
              have hin3 := Lib.hid hin
              replace hD1l := Lib.hid hD1l
              replace hE1l := Lib.hid hE1l
              clear hD1 hE1 hi hin
              generalize dl.getD i z48 = z at *
              replace g1 := Lib.hid g1
              replace g2 := Lib.hid g2
              have K0 := Lib.hid (Has.dues (L := [dueA (.slice (some ⟨b3, 0, none⟩) dl.length c3) dl, intA (.slice Aw1 F1.length cw1) F1] ++ dueA (.slice At1 D1.length ct1) D1 :: (intA (.slice Aa1 E1.length ca1) E1 :: [tmO g pb pc ps (s + 1) ws2, paO pb pc ps])) H7.out z)
              go_wp2_with (first | (at_builtin; refine wpList_append_row _ rfl (.tmp 97) (.tmp 102) 33 48 _ 2 16 rfl Try.underlying33 info48 rfl (by decide) (by decide) (.slice At1 D1.length ct1) D1.length (D1.flatMap enc2) ([z].flatMap enc2) (some ⟨wr.heap.size, 0, none⟩) 1 1 rfl rfl (flat_one [z]) ?hO ?hD ?len ?go) | fail)
              case hO => exact Has.row K0.out (by simp [dueA])
              case hD => exact Has.row K0.out (by simp [dueA])
              case len => omega
              case go =>
                intro v1 wrb hrow hg hat2
                have K1 := Has.grow (L1 := dueA (.slice (some ⟨wr.heap.size, 0, none⟩) 1 1) [z] :: [dueA (.slice (some ⟨b3, 0, none⟩) dl.length c3) dl, intA (.slice Aw1 F1.length cw1) F1]) (L2 := (intA (.slice Aa1 E1.length ca1) E1 :: [tmO g pb pc ps (s + 1) ws2, paO pb pc ps])) (v := .slice At1 D1.length ct1) K0.out hg hrow (hat2.imp id (fun h => by simpa using h))
                replace K1 := (dueA_app v1 D1 [z]) ▸ K1
                obtain ⟨Awr, cwr, rfl, hcwr⟩ := LRow.slice hrow
                clear hrow hg hat2 K0
                have H8 := Lib.hid (show Has w wrb ([dueA (.slice (some ⟨b3, 0, none⟩) dl.length c3) dl, intA (.slice Aw1 F1.length cw1) F1, dueA (.slice Awr (D1.length + 1) cwr) (D1 ++ [z])] ++ intA (.slice Aa1 E1.length ca1) E1 :: [tmO g pb pc ps (s + 1) ws2, paO pb pc ps]) from K1.sub ((List.Sublist.refl _).cons _))
                clear K1 H7
                have K0 := Lib.hid (Has.ints (L := [dueA (.slice (some ⟨b3, 0, none⟩) dl.length c3) dl, intA (.slice Aw1 F1.length cw1) F1, dueA (.slice Awr (D1.length + 1) cwr) (D1 ++ [z])] ++ intA (.slice Aa1 E1.length ca1) E1 :: [tmO g pb pc ps (s + 1) ws2, paO pb pc ps]) H8.out [(s : Int)] (by simp))
                go_wp2_with (first | (at_builtin; refine wpList_append_row _ rfl (.tmp 104) (.tmp 106) 22 3 _ 1 8 rfl Try.underlying22 info3 rfl (by decide) (by decide) (.slice Aa1 E1.length ca1) E1.length (E1.map (Value.int .i64)) ([(s : Int)].map (Value.int .i64)) (some ⟨wrb.heap.size, 0, none⟩) 1 1 rfl rfl (one_ints [(s : Int)]) ?hO ?hD ?len ?go) | fail)
                case hO => exact Has.row K0.out (by simp [intA])
                case hD => exact Has.row K0.out (by simp [intA])
                case len => omega
                case go =>
                  intro v1 wrbb hrow hg hat
                  have K1 := Has.grow (L1 := intA (.slice (some ⟨wrb.heap.size, 0, none⟩) 1 1) [(s : Int)] :: [dueA (.slice (some ⟨b3, 0, none⟩) dl.length c3) dl, intA (.slice Aw1 F1.length cw1) F1, dueA (.slice Awr (D1.length + 1) cwr) (D1 ++ [z])]) (L2 := [tmO g pb pc ps (s + 1) ws2, paO pb pc ps]) (v := .slice Aa1 E1.length ca1) K0.out hg hrow (hat.imp id (fun h => by simpa using h))
                  replace K1 := (intA_app v1 E1 [(s : Int)]) ▸ K1
                  obtain ⟨Awrb, cwrb, rfl, hcwrb⟩ := LRow.slice hrow
                  clear hrow hg hat K0
                  have H9 := Lib.hid (show Has w wrbb [dueA (.slice (some ⟨b3, 0, none⟩) dl.length c3) dl, intA (.slice Aw1 F1.length cw1) F1, dueA (.slice Awr (D1 ++ [z]).length cwr) (D1 ++ [z]), intA (.slice Awrb (E1 ++ [(s : Int)]).length cwrb) (E1 ++ [(s : Int)]), tmO g pb pc ps (s + 1) ws2, paO pb pc ps] from by
                    rw [List.length_append, List.length_append]
                    exact K1.sub ((List.Sublist.refl _).cons _))
                  clear K1
                  go_wp2_with fail
                  go_roundw
                  case rel => exact ⟨i + 1, Awr, Awrb, cwr, cwrb, _, _, hin3.out, by go_num, by rw [List.length_append]; rfl, by rw [List.length_append]; rfl, g1.out, g2.out, by have := hD1l.out; rw [List.length_append]; show D1.length + 1 = _; omega, by have := hE1l.out; rw [List.length_append]; show E1.length + 1 = _; omega, H9.out⟩
                  case measure => have := hin3.out; clear tk1; simp [intOf]; omega
            · have e0 : ¬ ((i : Int) < (dl.length : Int)) := fun h => hin (Int.ofNat_lt.1 h)
              obtain rfl : i = dl.length := by omega
              rw [List.take_length] at hD1
              have hDn : D1 = (T ++ tt).map W3.due := by rw [hD1, hD.out, ← hdd.out, List.map_append]
              have hEn : E1 = (T ++ tt).map W3.a := by rw [hE1, hE.out, ← hdd.out, List.length_map, rep_told hat.out, List.map_append]
              replace hDn := Lib.hid hDn
              replace hEn := Lib.hid hEn
              have hsn3 := Lib.hid hsn
              replace hin := Lib.hid hin
              clear hD1 hE1 hD1l hE1l hi
              have H8 := Lib.hid (H7.out.sub (.cons _ (List.Sublist.refl _)))
              go_wp2_with fail
              have hsz := hsn3.out
              exact ⟨⟨s + 1, ws2, T ++ tt, Wl ++ rl (jitOf w A' m) s 0 ps k, k1, At1, Aa1, Aw1, ct1, ca1, cw1, D1, E1, F1, hsz, by go_num, rfl, rfl, rfl, rfl, hDn.out, hEn.out, hFin.out, hgn.out, hnx.out, hkk.out, H8.out⟩, by simp [intOf]; omega⟩
    · have e0 : ¬ ((s : Int) < (n : Int)) := fun h => hsn (Int.ofNat_lt.1 h)
      obtain rfl : s = n := by omega
      obtain ⟨hT, hw, hWl⟩ := hon.bounds (by omega)
      have htot := hon.total
      have hDl : D.length = T.length := by rw [hD, List.length_map]
      have hEl : E.length = T.length := by rw [hE, List.length_map]
      have hFl : F.length = 3 * Wl.length := by rw [hF, enc3_len]
      have N4 := waitH (g := g) (pv := .slice (some ⟨pb, 0, none⟩) ps.length pc) (now := s) (ws := ws) HS.out (by simp) hgd.sorted (by omega)
      have hlw : (ws.map W3.due).length = ws.length := List.length_map _
      generalize hdw : ws.map W3.due = dw at *
      replace N4 := Lib.hid N4
      have hDb : D.length ≤ 2048 := by omega
      have hdwb : dw.length ≤ 2048 := by omega
      have heq : 3 * ((D.length : Int) + (dw.length : Int)) = (F.length : Int) := by omega
      have hFb : F.length ≤ 6144 := by omega
      replace hD := Lib.hid hD
      replace hE := Lib.hid hE
      replace hF := Lib.hid hF
      replace hDl := Lib.hid hDl
      replace hEl := Lib.hid hEl
      replace hFl := Lib.hid hFl
      replace hgd := Lib.hid hgd
      replace hon := Lib.hid hon
      replace hdw := Lib.hid hdw
      clear hk hs htot hlw hT hw hWl
      go_wp2_with fail
      refine N4.out.mono ?_
      rintro e w4 ⟨A4, c4, _, rfl, H4⟩
      replace H4 := Lib.hid H4
      clear N4 HS
      go_wp2_with fail
      replace heq := Lib.hid heq
      go_loopw [21] (fun vi wr => LookRel w [dueA (.slice A4 dw.length c4) dw, intA (.slice Aw F.length cw) F, dueA (.slice At D.length ct) D, intA (.slice Aa E.length ca) E, tmO g pb pc ps s ws, paO pb pc ps] D.length vi wr) (fun vi _ => D.length - (intOf vi).toNat)
      case atStart => exact ⟨0, Nat.zero_le _, rfl, H4.out⟩
      case round =>
        obtain ⟨i, hi, rfl, H5⟩ := hrel
        replace H5 := Lib.hid H5
        clear H4
        by_cases hin : i < D.length
        · have hin' : (i : Int) < (D.length : Int) := Int.ofNat_lt.2 hin
          have hiT : i < T.length := by rw [← hDl.out]; exact hin
          obtain ⟨x, hx⟩ : ∃ x, T[i]? = some x := ⟨T[i], List.getElem?_eq_getElem hiT⟩
          obtain ⟨m0, hm0, hWm⟩ := hon.out.found i x hx
          have hDx : D[i]? = some x.due := by rw [hD.out, List.getElem?_map, hx]; rfl
          have hEx : E[i]? = some x.a := by rw [hE.out, List.getElem?_map, hx]; rfl
          have tk1 : decide (D.length ≤ i) = false := decide_eq_false (Nat.not_le.2 hin)
          have tk2 : decide (E.length ≤ i) = false := decide_eq_false (by rw [hEl.out]; exact Nat.not_le.2 hiT)
          have hEi : (i : Int) < (E.length : Int) := by rw [hEl.out]; exact Int.ofNat_lt.2 hiT
          have hi5 : i < 2048 := by omega
          have hin3 := Lib.hid hin
          replace hDx := Lib.hid hDx
          replace hEx := Lib.hid hEx
          replace hWm := Lib.hid hWm
          clear hx hiT hi hin
          replace hm0 := Lib.hid hm0
          go_wp2_with fail
          go_loopw [22, 23] (fun vo vm wr => FindRel w [dueA (.slice A4 dw.length c4) dw, intA (.slice Aw F.length cw) F, dueA (.slice At D.length ct) D, intA (.slice Aa E.length ca) E, tmO g pb pc ps s ws, paO pb pc ps] Wl.length m0 vo vm wr) (fun _ vm _ => F.length - (intOf vm).toNat)
          case atStart => exact ⟨0, false, Nat.zero_le _, rfl, rfl, fun h => absurd h (Nat.not_lt_zero _), H5.out⟩
          case round =>
            obtain ⟨q, b, hq, rfl, rfl, hb, H6⟩ := hrel
            replace H6 := Lib.hid H6
            clear H5
            by_cases hqn : q < Wl.length
            · obtain ⟨y, hy⟩ : ∃ y, Wl[q]? = some y := ⟨Wl[q], List.getElem?_eq_getElem hqn⟩
              obtain ⟨f1, f2, f3⟩ := enc3_get Wl q y hy
              rw [← hF.out] at f1 f2 f3
              have hyx : q = m0 → y = x := by
                rintro rfl
                have h1 := hWm.out
                rw [hy] at h1
                exact Option.some.inj h1
              have hr3 : 3 * q + 2 < F.length := by rw [hFl.out]; omega
              obtain ⟨b1, rfl, x0, x1⟩ := due_cells (A := At) (c := ct) H6.out (by simp) i _ hDx.out
              obtain ⟨b2, rfl, x2⟩ := int_cell (A := Aa) (c := ca) H6.out (by simp) rfl i _ hEx.out
              obtain ⟨b3, rfl, y0⟩ := int_cell (A := Aw) (c := cw) H6.out (by simp) rfl (3 * q) _ f1
              obtain ⟨b4, hb4, y1⟩ := int_cell (A := some ⟨b3, 0, none⟩) (c := cw) H6.out (by simp) rfl (3 * q + 1) _ f2
              obtain ⟨b5, hb5, y2⟩ := int_cell (A := some ⟨b3, 0, none⟩) (c := cw) H6.out (by simp) rfl (3 * q + 2) _ f3
              injection hb4 with hb4
              injection hb4 with hb4 _ _
              subst hb4
              injection hb5 with hb5
              injection hb5 with hb5 _ _
              subst hb5
              change wr.cell? ⟨b1, i * 2, none⟩ = some (.int .i64 x.t) at x0
              change wr.cell? ⟨b1, i * 2 + 1, none⟩ = some (.int .i64 x.n) at x1
              have hq3 : (((3 * (q + 1) : Nat)) : Int) = ((3 * q : Nat) : Int) + 3 := by omega
              have hqn3 := Lib.hid hqn
              generalize hr : 3 * q = r at *
              have hr6 : r < 6144 := by omega
              obtain ⟨hw1, hw2⟩ : wrap64 ((r : Int) + 1) = ((r + 1 : Nat) : Int) ∧ wrap64 ((r : Int) + 2) = ((r + 2 : Nat) : Int) := near_ hr6
              generalize hr1e : r + 1 = r1 at *
              generalize hr2e : r + 2 = r2 at *
              have hrF : (r : Int) < (F.length : Int) := by omega
              have hr1 : (r1 : Int) < (F.length : Int) := by omega
              have hr2 : (r2 : Int) < (F.length : Int) := by omega
              have tr0 : decide (F.length ≤ r) = false := decide_eq_false (by omega)
              have tr1 : decide (F.length ≤ r1) = false := decide_eq_false (by omega)
              have tr2 : decide (F.length ≤ r2) = false := decide_eq_false (by omega)
              replace hr1e := Lib.hid hr1e
              replace hr2e := Lib.hid hr2e
              replace hr := Lib.hid hr
              replace hq3 := Lib.hid hq3
              replace hyx := Lib.hid hyx
              replace hb := Lib.hid hb
              have hr7 := Lib.hid hr3
              clear hy f1 f2 f3 hq hqn hr3
              cases b with
              | true =>
                go_wp2_with fail
                refine start_ (n := 39) (S := fun w' => (w'.cell? ⟨b3, r, none⟩ = some (.int .i64 y.t) ∧ w'.cell? ⟨b3, r1, none⟩ = some (.int .i64 y.n) ∧ w'.cell? ⟨b3, r2, none⟩ = some (.int .i64 y.a)) ∧ w'.cell? ⟨b1, i * 2, none⟩ = some (.int .i64 x.t) ∧ w'.cell? ⟨b1, i * 2 + 1, none⟩ = some (.int .i64 x.n) ∧ w'.cell? ⟨b2, i, none⟩ = some (.int .i64 x.a)) (ds := []) #[false, false, false, false, false, false, false, false, false, false, false, false, false, false, false, false, false, false, false, false, false, false, false, false, false, false, false, false, false, false, false, false, false, false, false, false, false, false, false] (by kernel_rfl) rfl rfl ⟨⟨y0, y1, y2⟩, x0, x1, x2⟩ (fun hHeld => ?_)
                refine pure_ (i := 0) (N := some 131) (v := ?_) (a' := ?_) #[true, false, false, false, false, false, false, false, false, false, false, false, false, false, false, false, false, false, false, false, false, false, false, false, false, false, false, false, false, false, false, false, false, false, false, false, false, false, false] rfl rfl (by kernel_rfl) (fun _ _ _ h => h) (Or.inl ⟨by rfl, ?_⟩) ?_ ?_
                rotate_left
                · intro w'
                  go_simp
                  first | with_reducible rfl | rfl
                rotate_left
                · simp only [Act.put, List.setIfInBounds_toArray, List.set_cons_zero, List.set_cons_succ, i64_w, i32_w]
                  rfl
                refine pure_ (i := 1) (N := some 132) (v := ?_) (a' := ?_) #[true, true, false, false, false, false, false, false, false, false, false, false, false, false, false, false, false, false, false, false, false, false, false, false, false, false, false, false, false, false, false, false, false, false, false, false, false, false, false] rfl rfl (by kernel_rfl) (fun _ _ _ h => h) (Or.inl ⟨by rfl, ?_⟩) ?_ ?_
                rotate_left
                · intro w'
                  go_simp
                  first | with_reducible rfl | rfl
                rotate_left
                · simp only [Act.put, List.setIfInBounds_toArray, List.set_cons_zero, List.set_cons_succ, i64_w, i32_w]
                  rfl
                refine pure_ (i := 2) (N := some 133) (v := undef) (a' := ?_) #[true, true, true, false, false, false, false, false, false, false, false, false, false, false, false, false, false, false, false, false, false, false, false, false, false, false, false, false, false, false, false, false, false, false, false, false, false, false, false] rfl rfl (by kernel_rfl) (fun _ _ _ h => h) (Or.inr ⟨by rfl, rfl⟩) ?_ ?_
                rotate_left
                · simp only [Act.put, List.setIfInBounds_toArray, List.set_cons_zero, List.set_cons_succ, i64_w, i32_w]
                  rfl
                refine pure_ (i := 3) (N := some 134) (v := undef) (a' := ?_) #[true, true, true, true, false, false, false, false, false, false, false, false, false, false, false, false, false, false, false, false, false, false, false, false, false, false, false, false, false, false, false, false, false, false, false, false, false, false, false] rfl rfl (by kernel_rfl) (fun _ _ _ h => h) (Or.inr ⟨by rfl, rfl⟩) ?_ ?_
                rotate_left
                · simp only [Act.put, List.setIfInBounds_toArray, List.set_cons_zero, List.set_cons_succ, i64_w, i32_w]
                  rfl
                refine pure_ (i := 4) (N := some 135) (v := undef) (a' := ?_) #[true, true, true, true, true, false, false, false, false, false, false, false, false, false, false, false, false, false, false, false, false, false, false, false, false, false, false, false, false, false, false, false, false, false, false, false, false, false, false] rfl rfl (by kernel_rfl) (fun _ _ _ h => h) (Or.inr ⟨by rfl, rfl⟩) ?_ ?_
                rotate_left
                · simp only [Act.put, List.setIfInBounds_toArray, List.set_cons_zero, List.set_cons_succ, i64_w, i32_w]
                  rfl
                refine pure_ (i := 5) (N := some 136) (v := undef) (a' := ?_) #[true, true, true, true, true, true, false, false, false, false, false, false, false, false, false, false, false, false, false, false, false, false, false, false, false, false, false, false, false, false, false, false, false, false, false, false, false, false, false] rfl rfl (by kernel_rfl) (fun _ _ _ h => h) (Or.inr ⟨by rfl, rfl⟩) ?_ ?_
                rotate_left
                · simp only [Act.put, List.setIfInBounds_toArray, List.set_cons_zero, List.set_cons_succ, i64_w, i32_w]
                  rfl
                refine pure_ (i := 6) (N := some 137) (v := undef) (a' := ?_) #[true, true, true, true, true, true, true, false, false, false, false, false, false, false, false, false, false, false, false, false, false, false, false, false, false, false, false, false, false, false, false, false, false, false, false, false, false, false, false] rfl rfl (by kernel_rfl) (fun _ _ _ h => h) (Or.inr ⟨by rfl, rfl⟩) ?_ ?_
                rotate_left
                · simp only [Act.put, List.setIfInBounds_toArray, List.set_cons_zero, List.set_cons_succ, i64_w, i32_w]
                  rfl
                refine pure_ (i := 7) (N := some 138) (v := undef) (a' := ?_) #[true, true, true, true, true, true, true, true, false, false, false, false, false, false, false, false, false, false, false, false, false, false, false, false, false, false, false, false, false, false, false, false, false, false, false, false, false, false, false] rfl rfl (by kernel_rfl) (fun _ _ _ h => h) (Or.inr ⟨by rfl, rfl⟩) ?_ ?_
                rotate_left
                · simp only [Act.put, List.setIfInBounds_toArray, List.set_cons_zero, List.set_cons_succ, i64_w, i32_w]
                  rfl
                refine pure_ (i := 8) (N := some 139) (v := undef) (a' := ?_) #[true, true, true, true, true, true, true, true, true, false, false, false, false, false, false, false, false, false, false, false, false, false, false, false, false, false, false, false, false, false, false, false, false, false, false, false, false, false, false] rfl rfl (by kernel_rfl) (fun _ _ _ h => h) (Or.inr ⟨by rfl, rfl⟩) ?_ ?_
                rotate_left
                · simp only [Act.put, List.setIfInBounds_toArray, List.set_cons_zero, List.set_cons_succ, i64_w, i32_w]
                  rfl
                refine pure_ (i := 9) (N := some 140) (v := undef) (a' := ?_) #[true, true, true, true, true, true, true, true, true, true, false, false, false, false, false, false, false, false, false, false, false, false, false, false, false, false, false, false, false, false, false, false, false, false, false, false, false, false, false] rfl rfl (by kernel_rfl) (fun _ _ _ h => h) (Or.inr ⟨by rfl, rfl⟩) ?_ ?_
                rotate_left
                · simp only [Act.put, List.setIfInBounds_toArray, List.set_cons_zero, List.set_cons_succ, i64_w, i32_w]
                  rfl
                refine pure_ (i := 10) (N := some 141) (v := undef) (a' := ?_) #[true, true, true, true, true, true, true, true, true, true, true, false, false, false, false, false, false, false, false, false, false, false, false, false, false, false, false, false, false, false, false, false, false, false, false, false, false, false, false] rfl rfl (by kernel_rfl) (fun _ _ _ h => h) (Or.inr ⟨by rfl, rfl⟩) ?_ ?_
                rotate_left
                · simp only [Act.put, List.setIfInBounds_toArray, List.set_cons_zero, List.set_cons_succ, i64_w, i32_w]
                  rfl
                refine pure_ (i := 11) (N := some 142) (v := undef) (a' := ?_) #[true, true, true, true, true, true, true, true, true, true, true, true, false, false, false, false, false, false, false, false, false, false, false, false, false, false, false, false, false, false, false, false, false, false, false, false, false, false, false] rfl rfl (by kernel_rfl) (fun _ _ _ h => h) (Or.inr ⟨by rfl, rfl⟩) ?_ ?_
                rotate_left
                · simp only [Act.put, List.setIfInBounds_toArray, List.set_cons_zero, List.set_cons_succ, i64_w, i32_w]
                  rfl
                refine pure_ (i := 12) (N := some 143) (v := undef) (a' := ?_) #[true, true, true, true, true, true, true, true, true, true, true, true, true, false, false, false, false, false, false, false, false, false, false, false, false, false, false, false, false, false, false, false, false, false, false, false, false, false, false] rfl rfl (by kernel_rfl) (fun _ _ _ h => h) (Or.inr ⟨by rfl, rfl⟩) ?_ ?_
                rotate_left
                · simp only [Act.put, List.setIfInBounds_toArray, List.set_cons_zero, List.set_cons_succ, i64_w, i32_w]
                  rfl
                refine pure_ (i := 13) (N := some 144) (v := undef) (a' := ?_) #[true, true, true, true, true, true, true, true, true, true, true, true, true, true, false, false, false, false, false, false, false, false, false, false, false, false, false, false, false, false, false, false, false, false, false, false, false, false, false] rfl rfl (by kernel_rfl) (fun _ _ _ h => h) (Or.inr ⟨by rfl, rfl⟩) ?_ ?_
                rotate_left
                · simp only [Act.put, List.setIfInBounds_toArray, List.set_cons_zero, List.set_cons_succ, i64_w, i32_w]
                  rfl
                refine pure_ (i := 14) (N := some 145) (v := undef) (a' := ?_) #[true, true, true, true, true, true, true, true, true, true, true, true, true, true, true, false, false, false, false, false, false, false, false, false, false, false, false, false, false, false, false, false, false, false, false, false, false, false, false] rfl rfl (by kernel_rfl) (fun _ _ _ h => h) (Or.inr ⟨by rfl, rfl⟩) ?_ ?_
                rotate_left
                · simp only [Act.put, List.setIfInBounds_toArray, List.set_cons_zero, List.set_cons_succ, i64_w, i32_w]
                  rfl
                refine pure_ (i := 15) (N := some 146) (v := undef) (a' := ?_) #[true, true, true, true, true, true, true, true, true, true, true, true, true, true, true, true, false, false, false, false, false, false, false, false, false, false, false, false, false, false, false, false, false, false, false, false, false, false, false] rfl rfl (by kernel_rfl) (fun _ _ _ h => h) (Or.inr ⟨by rfl, rfl⟩) ?_ ?_
                rotate_left
                · simp only [Act.put, List.setIfInBounds_toArray, List.set_cons_zero, List.set_cons_succ, i64_w, i32_w]
                  rfl
                refine pure_ (i := 16) (N := some 147) (v := undef) (a' := ?_) #[true, true, true, true, true, true, true, true, true, true, true, true, true, true, true, true, true, false, false, false, false, false, false, false, false, false, false, false, false, false, false, false, false, false, false, false, false, false, false] rfl rfl (by kernel_rfl) (fun _ _ _ h => h) (Or.inr ⟨by rfl, rfl⟩) ?_ ?_
                rotate_left
                · simp only [Act.put, List.setIfInBounds_toArray, List.set_cons_zero, List.set_cons_succ, i64_w, i32_w]
                  rfl
                refine pure_ (i := 17) (N := some 148) (v := undef) (a' := ?_) #[true, true, true, true, true, true, true, true, true, true, true, true, true, true, true, true, true, true, false, false, false, false, false, false, false, false, false, false, false, false, false, false, false, false, false, false, false, false, false] rfl rfl (by kernel_rfl) (fun _ _ _ h => h) (Or.inr ⟨by rfl, rfl⟩) ?_ ?_
                rotate_left
                · simp only [Act.put, List.setIfInBounds_toArray, List.set_cons_zero, List.set_cons_succ, i64_w, i32_w]
                  rfl
                refine pure_ (i := 18) (N := some 149) (v := undef) (a' := ?_) #[true, true, true, true, true, true, true, true, true, true, true, true, true, true, true, true, true, true, true, false, false, false, false, false, false, false, false, false, false, false, false, false, false, false, false, false, false, false, false] rfl rfl (by kernel_rfl) (fun _ _ _ h => h) (Or.inr ⟨by rfl, rfl⟩) ?_ ?_
                rotate_left
                · simp only [Act.put, List.setIfInBounds_toArray, List.set_cons_zero, List.set_cons_succ, i64_w, i32_w]
                  rfl
                refine pure_ (i := 19) (N := some 150) (v := undef) (a' := ?_) #[true, true, true, true, true, true, true, true, true, true, true, true, true, true, true, true, true, true, true, true, false, false, false, false, false, false, false, false, false, false, false, false, false, false, false, false, false, false, false] rfl rfl (by kernel_rfl) (fun _ _ _ h => h) (Or.inr ⟨by rfl, rfl⟩) ?_ ?_
                rotate_left
                · simp only [Act.put, List.setIfInBounds_toArray, List.set_cons_zero, List.set_cons_succ, i64_w, i32_w]
                  rfl
                refine pure_ (i := 20) (N := some 151) (v := undef) (a' := ?_) #[true, true, true, true, true, true, true, true, true, true, true, true, true, true, true, true, true, true, true, true, true, false, false, false, false, false, false, false, false, false, false, false, false, false, false, false, false, false, false] rfl rfl (by kernel_rfl) (fun _ _ _ h => h) (Or.inr ⟨by rfl, rfl⟩) ?_ ?_
                rotate_left
                · simp only [Act.put, List.setIfInBounds_toArray, List.set_cons_zero, List.set_cons_succ, i64_w, i32_w]
                  rfl
                refine pure_ (i := 21) (N := some 152) (v := undef) (a' := ?_) #[true, true, true, true, true, true, true, true, true, true, true, true, true, true, true, true, true, true, true, true, true, true, false, false, false, false, false, false, false, false, false, false, false, false, false, false, false, false, false] rfl rfl (by kernel_rfl) (fun _ _ _ h => h) (Or.inr ⟨by rfl, rfl⟩) ?_ ?_
                rotate_left
                · simp only [Act.put, List.setIfInBounds_toArray, List.set_cons_zero, List.set_cons_succ, i64_w, i32_w]
                  rfl
                refine pure_ (i := 22) (N := some 153) (v := undef) (a' := ?_) #[true, true, true, true, true, true, true, true, true, true, true, true, true, true, true, true, true, true, true, true, true, true, true, false, false, false, false, false, false, false, false, false, false, false, false, false, false, false, false] rfl rfl (by kernel_rfl) (fun _ _ _ h => h) (Or.inr ⟨by rfl, rfl⟩) ?_ ?_
                rotate_left
                · simp only [Act.put, List.setIfInBounds_toArray, List.set_cons_zero, List.set_cons_succ, i64_w, i32_w]
                  rfl
                refine pure_ (i := 23) (N := some 154) (v := undef) (a' := ?_) #[true, true, true, true, true, true, true, true, true, true, true, true, true, true, true, true, true, true, true, true, true, true, true, true, false, false, false, false, false, false, false, false, false, false, false, false, false, false, false] rfl rfl (by kernel_rfl) (fun _ _ _ h => h) (Or.inr ⟨by rfl, rfl⟩) ?_ ?_
                rotate_left
                · simp only [Act.put, List.setIfInBounds_toArray, List.set_cons_zero, List.set_cons_succ, i64_w, i32_w]
                  rfl
                refine pure_ (i := 24) (N := some 155) (v := undef) (a' := ?_) #[true, true, true, true, true, true, true, true, true, true, true, true, true, true, true, true, true, true, true, true, true, true, true, true, true, false, false, false, false, false, false, false, false, false, false, false, false, false, false] rfl rfl (by kernel_rfl) (fun _ _ _ h => h) (Or.inr ⟨by rfl, rfl⟩) ?_ ?_
                rotate_left
                · simp only [Act.put, List.setIfInBounds_toArray, List.set_cons_zero, List.set_cons_succ, i64_w, i32_w]
                  rfl
                refine pure_ (i := 25) (N := some 156) (v := undef) (a' := ?_) #[true, true, true, true, true, true, true, true, true, true, true, true, true, true, true, true, true, true, true, true, true, true, true, true, true, true, false, false, false, false, false, false, false, false, false, false, false, false, false] rfl rfl (by kernel_rfl) (fun _ _ _ h => h) (Or.inr ⟨by rfl, rfl⟩) ?_ ?_
                rotate_left
                · simp only [Act.put, List.setIfInBounds_toArray, List.set_cons_zero, List.set_cons_succ, i64_w, i32_w]
                  rfl
                refine pure_ (i := 26) (N := some 157) (v := undef) (a' := ?_) #[true, true, true, true, true, true, true, true, true, true, true, true, true, true, true, true, true, true, true, true, true, true, true, true, true, true, true, false, false, false, false, false, false, false, false, false, false, false, false] rfl rfl (by kernel_rfl) (fun _ _ _ h => h) (Or.inr ⟨by rfl, rfl⟩) ?_ ?_
                rotate_left
                · simp only [Act.put, List.setIfInBounds_toArray, List.set_cons_zero, List.set_cons_succ, i64_w, i32_w]
                  rfl
                refine pure_ (i := 27) (N := some 158) (v := undef) (a' := ?_) #[true, true, true, true, true, true, true, true, true, true, true, true, true, true, true, true, true, true, true, true, true, true, true, true, true, true, true, true, false, false, false, false, false, false, false, false, false, false, false] rfl rfl (by kernel_rfl) (fun _ _ _ h => h) (Or.inr ⟨by rfl, rfl⟩) ?_ ?_
                rotate_left
                · simp only [Act.put, List.setIfInBounds_toArray, List.set_cons_zero, List.set_cons_succ, i64_w, i32_w]
                  rfl
                refine pure_ (i := 28) (N := some 159) (v := undef) (a' := ?_) #[true, true, true, true, true, true, true, true, true, true, true, true, true, true, true, true, true, true, true, true, true, true, true, true, true, true, true, true, true, false, false, false, false, false, false, false, false, false, false] rfl rfl (by kernel_rfl) (fun _ _ _ h => h) (Or.inr ⟨by rfl, rfl⟩) ?_ ?_
                rotate_left
                · simp only [Act.put, List.setIfInBounds_toArray, List.set_cons_zero, List.set_cons_succ, i64_w, i32_w]
                  rfl
                refine pure_ (i := 29) (N := some 160) (v := undef) (a' := ?_) #[true, true, true, true, true, true, true, true, true, true, true, true, true, true, true, true, true, true, true, true, true, true, true, true, true, true, true, true, true, true, false, false, false, false, false, false, false, false, false] rfl rfl (by kernel_rfl) (fun _ _ _ h => h) (Or.inr ⟨by rfl, rfl⟩) ?_ ?_
                rotate_left
                · simp only [Act.put, List.setIfInBounds_toArray, List.set_cons_zero, List.set_cons_succ, i64_w, i32_w]
                  rfl
                refine pure_ (i := 30) (N := some 161) (v := undef) (a' := ?_) #[true, true, true, true, true, true, true, true, true, true, true, true, true, true, true, true, true, true, true, true, true, true, true, true, true, true, true, true, true, true, true, false, false, false, false, false, false, false, false] rfl rfl (by kernel_rfl) (fun _ _ _ h => h) (Or.inr ⟨by rfl, rfl⟩) ?_ ?_
                rotate_left
                · simp only [Act.put, List.setIfInBounds_toArray, List.set_cons_zero, List.set_cons_succ, i64_w, i32_w]
                  rfl
                refine pure_ (i := 31) (N := some 162) (v := undef) (a' := ?_) #[true, true, true, true, true, true, true, true, true, true, true, true, true, true, true, true, true, true, true, true, true, true, true, true, true, true, true, true, true, true, true, true, false, false, false, false, false, false, false] rfl rfl (by kernel_rfl) (fun _ _ _ h => h) (Or.inr ⟨by rfl, rfl⟩) ?_ ?_
                rotate_left
                · simp only [Act.put, List.setIfInBounds_toArray, List.set_cons_zero, List.set_cons_succ, i64_w, i32_w]
                  rfl
                refine pure_ (i := 32) (N := some 163) (v := undef) (a' := ?_) #[true, true, true, true, true, true, true, true, true, true, true, true, true, true, true, true, true, true, true, true, true, true, true, true, true, true, true, true, true, true, true, true, true, false, false, false, false, false, false] rfl rfl (by kernel_rfl) (fun _ _ _ h => h) (Or.inr ⟨by rfl, rfl⟩) ?_ ?_
                rotate_left
                · simp only [Act.put, List.setIfInBounds_toArray, List.set_cons_zero, List.set_cons_succ, i64_w, i32_w]
                  rfl
                refine pure_ (i := 33) (N := some 164) (v := undef) (a' := ?_) #[true, true, true, true, true, true, true, true, true, true, true, true, true, true, true, true, true, true, true, true, true, true, true, true, true, true, true, true, true, true, true, true, true, true, false, false, false, false, false] rfl rfl (by kernel_rfl) (fun _ _ _ h => h) (Or.inr ⟨by rfl, rfl⟩) ?_ ?_
                rotate_left
                · simp only [Act.put, List.setIfInBounds_toArray, List.set_cons_zero, List.set_cons_succ, i64_w, i32_w]
                  rfl
                refine pure_ (i := 34) (N := some 165) (v := undef) (a' := ?_) #[true, true, true, true, true, true, true, true, true, true, true, true, true, true, true, true, true, true, true, true, true, true, true, true, true, true, true, true, true, true, true, true, true, true, true, false, false, false, false] rfl rfl (by kernel_rfl) (fun _ _ _ h => h) (Or.inr ⟨by rfl, rfl⟩) ?_ ?_
                rotate_left
                · simp only [Act.put, List.setIfInBounds_toArray, List.set_cons_zero, List.set_cons_succ, i64_w, i32_w]
                  rfl
                refine pure_ (i := 35) (N := some 166) (v := undef) (a' := ?_) #[true, true, true, true, true, true, true, true, true, true, true, true, true, true, true, true, true, true, true, true, true, true, true, true, true, true, true, true, true, true, true, true, true, true, true, true, false, false, false] rfl rfl (by kernel_rfl) (fun _ _ _ h => h) (Or.inr ⟨by rfl, rfl⟩) ?_ ?_
                rotate_left
                · simp only [Act.put, List.setIfInBounds_toArray, List.set_cons_zero, List.set_cons_succ, i64_w, i32_w]
                  rfl
                refine pure_ (i := 36) (N := some 167) (v := undef) (a' := ?_) #[true, true, true, true, true, true, true, true, true, true, true, true, true, true, true, true, true, true, true, true, true, true, true, true, true, true, true, true, true, true, true, true, true, true, true, true, true, false, false] rfl rfl (by kernel_rfl) (fun _ _ _ h => h) (Or.inr ⟨by rfl, rfl⟩) ?_ ?_
                rotate_left
                · simp only [Act.put, List.setIfInBounds_toArray, List.set_cons_zero, List.set_cons_succ, i64_w, i32_w]
                  rfl
                refine pure_ (i := 37) (N := some 168) (v := ?_) (a' := ?_) #[true, true, true, true, true, true, true, true, true, true, true, true, true, true, true, true, true, true, true, true, true, true, true, true, true, true, true, true, true, true, true, true, true, true, true, true, true, true, false] rfl rfl (by kernel_rfl) (fun _ _ _ h => h) (Or.inl ⟨by rfl, ?_⟩) ?_ ?_
                rotate_left
                · intro w'
                  go_simp
                  first | with_reducible rfl | rfl
                rotate_left
                · simp only [Act.put, List.setIfInBounds_toArray, List.set_cons_zero, List.set_cons_succ, i64_w, i32_w]
                  rfl
                refine pure_ (i := 38) (N := some 22) (v := ?_) (a' := ?_) #[true, true, true, true, true, true, true, true, true, true, true, true, true, true, true, true, true, true, true, true, true, true, true, true, true, true, true, true, true, true, true, true, true, true, true, true, true, true, true] rfl rfl (by kernel_rfl) (fun _ _ _ h => h) (Or.inl ⟨by rfl, ?_⟩) ?_ ?_
                rotate_left
                · intro w'
                  go_simp
                  first | with_reducible rfl | rfl
                rotate_left
                · simp only [Act.put, List.setIfInBounds_toArray, List.set_cons_zero, List.set_cons_succ, i64_w, i32_w]
                  rfl
                refine done_ (by kernel_rfl) ?_
                go_wp2_with fail
                go_roundw
                case rel => exact ⟨q + 1, true, hqn3.out, by (rw [hq3.out]; try go_num), rfl, fun _ => rfl, H6.out.step (Below.refl _ _).drew⟩
                case measure => have := hr7.out; clear tk1 tk2 tr0 tr1 tr2 hw1 hw2; simp [intOf]; omega
              | false =>
                by_cases hA : y.t = x.t
                · by_cases hB : y.n = x.n
                  · by_cases hC : y.a = x.a
                    · have tA := beq_iff_eq.mpr hA
                      have tB := beq_iff_eq.mpr hB
                      have tC := beq_iff_eq.mpr hC
                      replace hA := Lib.hid hA
                      replace hB := Lib.hid hB
                      replace hC := Lib.hid hC
                      go_wp2_with fail
                      refine start_ (n := 39) (S := fun w' => (w'.cell? ⟨b3, r, none⟩ = some (.int .i64 y.t) ∧ w'.cell? ⟨b3, r1, none⟩ = some (.int .i64 y.n) ∧ w'.cell? ⟨b3, r2, none⟩ = some (.int .i64 y.a)) ∧ w'.cell? ⟨b1, i * 2, none⟩ = some (.int .i64 x.t) ∧ w'.cell? ⟨b1, i * 2 + 1, none⟩ = some (.int .i64 x.n) ∧ w'.cell? ⟨b2, i, none⟩ = some (.int .i64 x.a)) (ds := []) #[false, false, false, false, false, false, false, false, false, false, false, false, false, false, false, false, false, false, false, false, false, false, false, false, false, false, false, false, false, false, false, false, false, false, false, false, false, false, false] (by kernel_rfl) rfl rfl ⟨⟨y0, y1, y2⟩, x0, x1, x2⟩ (fun hHeld => ?_)
                      refine pure_ (i := 0) (N := some 131) (v := ?_) (a' := ?_) #[true, false, false, false, false, false, false, false, false, false, false, false, false, false, false, false, false, false, false, false, false, false, false, false, false, false, false, false, false, false, false, false, false, false, false, false, false, false, false] rfl rfl (by kernel_rfl) (fun _ _ _ h => h) (Or.inl ⟨by rfl, ?_⟩) ?_ ?_
                      rotate_left
                      · intro w'
                        go_simp
                        first | with_reducible rfl | rfl
                      rotate_left
                      · simp only [Act.put, List.setIfInBounds_toArray, List.set_cons_zero, List.set_cons_succ, i64_w, i32_w]
                        rfl
                      refine pure_ (i := 1) (N := some 132) (v := ?_) (a' := ?_) #[true, true, false, false, false, false, false, false, false, false, false, false, false, false, false, false, false, false, false, false, false, false, false, false, false, false, false, false, false, false, false, false, false, false, false, false, false, false, false] rfl rfl (by kernel_rfl) (fun _ _ _ h => h) (Or.inl ⟨by rfl, ?_⟩) ?_ ?_
                      rotate_left
                      · intro w'
                        go_simp
                        first | with_reducible rfl | rfl
                      rotate_left
                      · simp only [Act.put, List.setIfInBounds_toArray, List.set_cons_zero, List.set_cons_succ, i64_w, i32_w]
                        rfl
                      refine pure_ (i := 2) (N := some 133) (v := ?_) (a' := ?_) #[true, true, true, false, false, false, false, false, false, false, false, false, false, false, false, false, false, false, false, false, false, false, false, false, false, false, false, false, false, false, false, false, false, false, false, false, false, false, false] rfl rfl (by kernel_rfl) (fun _ _ _ h => h) (Or.inl ⟨by rfl, ?_⟩) ?_ ?_
                      rotate_left
                      · intro w'
                        go_simp
                        first | with_reducible rfl | rfl
                      rotate_left
                      · simp only [Act.put, List.setIfInBounds_toArray, List.set_cons_zero, List.set_cons_succ, i64_w, i32_w]
                        rfl
                      refine pure_ (i := 3) (N := some 134) (v := ?_) (a' := ?_) #[true, true, true, true, false, false, false, false, false, false, false, false, false, false, false, false, false, false, false, false, false, false, false, false, false, false, false, false, false, false, false, false, false, false, false, false, false, false, false] rfl rfl (by kernel_rfl) (fun _ _ _ h => h) (Or.inl ⟨by rfl, ?_⟩) ?_ ?_
                      rotate_left
                      · intro w'
                        go_simp
                        first | with_reducible rfl | rfl
                      rotate_left
                      · simp only [Act.put, List.setIfInBounds_toArray, List.set_cons_zero, List.set_cons_succ, i64_w, i32_w]
                        rfl
                      refine pure_ (i := 4) (N := some 135) (v := ?_) (a' := ?_) #[true, true, true, true, true, false, false, false, false, false, false, false, false, false, false, false, false, false, false, false, false, false, false, false, false, false, false, false, false, false, false, false, false, false, false, false, false, false, false] rfl rfl (by kernel_rfl) (fun _ _ _ h => h) (Or.inl ⟨by rfl, ?_⟩) ?_ ?_
                      rotate_left
                      · intro w'
                        go_simp
                        first | with_reducible rfl | rfl
                      rotate_left
                      · simp only [Act.put, List.setIfInBounds_toArray, List.set_cons_zero, List.set_cons_succ, i64_w, i32_w]
                        rfl
                      refine take_ (i := 5) (N := some 136) (v := ?_) (a' := ?_) #[true, true, true, true, true, true, false, false, false, false, false, false, false, false, false, false, false, false, false, false, false, false, false, false, false, false, false, false, false, false, false, false, false, false, false, false, false, false, false] rfl rfl (by kernel_rfl) (fun _ _ _ h => h) (Or.inl ⟨by rfl, ?_⟩) hHeld ?_ ?_
                      rotate_left
                      · rintro w' ⟨⟨s0, s1, s2⟩, s3, s4, s5⟩
                        go_simp
                        first | with_reducible rfl | rfl
                      rotate_left
                      · simp only [Act.put, List.setIfInBounds_toArray, List.set_cons_zero, List.set_cons_succ, i64_w, i32_w]
                        rfl
                      refine pure_ (i := 6) (N := some 137) (v := ?_) (a' := ?_) #[true, true, true, true, true, true, true, false, false, false, false, false, false, false, false, false, false, false, false, false, false, false, false, false, false, false, false, false, false, false, false, false, false, false, false, false, false, false, false] rfl rfl (by kernel_rfl) (fun _ _ _ h => h) (Or.inl ⟨by rfl, ?_⟩) ?_ ?_
                      rotate_left
                      · intro w'
                        go_simp
                        first | with_reducible rfl | rfl
                      rotate_left
                      · simp only [Act.put, List.setIfInBounds_toArray, List.set_cons_zero, List.set_cons_succ, i64_w, i32_w]
                        rfl
                      refine pure_ (i := 7) (N := some 138) (v := ?_) (a' := ?_) #[true, true, true, true, true, true, true, true, false, false, false, false, false, false, false, false, false, false, false, false, false, false, false, false, false, false, false, false, false, false, false, false, false, false, false, false, false, false, false] rfl rfl (by kernel_rfl) (fun _ _ _ h => h) (Or.inl ⟨by rfl, ?_⟩) ?_ ?_
                      rotate_left
                      · intro w'
                        go_simp
                        first | with_reducible rfl | rfl
                      rotate_left
                      · simp only [Act.put, List.setIfInBounds_toArray, List.set_cons_zero, List.set_cons_succ, i64_w, i32_w]
                        rfl
                      refine pure_ (i := 8) (N := some 139) (v := ?_) (a' := ?_) #[true, true, true, true, true, true, true, true, true, false, false, false, false, false, false, false, false, false, false, false, false, false, false, false, false, false, false, false, false, false, false, false, false, false, false, false, false, false, false] rfl rfl (by kernel_rfl) (fun _ _ _ h => h) (Or.inl ⟨by rfl, ?_⟩) ?_ ?_
                      rotate_left
                      · intro w'
                        go_simp
                        first | with_reducible rfl | rfl
                      rotate_left
                      · simp only [Act.put, List.setIfInBounds_toArray, List.set_cons_zero, List.set_cons_succ, i64_w, i32_w]
                        rfl
                      refine pure_ (i := 9) (N := some 140) (v := ?_) (a' := ?_) #[true, true, true, true, true, true, true, true, true, true, false, false, false, false, false, false, false, false, false, false, false, false, false, false, false, false, false, false, false, false, false, false, false, false, false, false, false, false, false] rfl rfl (by kernel_rfl) (fun _ _ _ h => h) (Or.inl ⟨by rfl, ?_⟩) ?_ ?_
                      rotate_left
                      · intro w'
                        go_simp
                        first | with_reducible rfl | rfl
                      rotate_left
                      · simp only [Act.put, List.setIfInBounds_toArray, List.set_cons_zero, List.set_cons_succ, i64_w, i32_w]
                        rfl
                      refine take_ (i := 10) (N := some 141) (v := ?_) (a' := ?_) #[true, true, true, true, true, true, true, true, true, true, true, false, false, false, false, false, false, false, false, false, false, false, false, false, false, false, false, false, false, false, false, false, false, false, false, false, false, false, false] rfl rfl (by kernel_rfl) (fun _ _ _ h => h) (Or.inl ⟨by rfl, ?_⟩) hHeld ?_ ?_
                      rotate_left
                      · rintro w' ⟨⟨s0, s1, s2⟩, s3, s4, s5⟩
                        go_simp
                        first | with_reducible rfl | rfl
                      rotate_left
                      · simp only [Act.put, List.setIfInBounds_toArray, List.set_cons_zero, List.set_cons_succ, i64_w, i32_w]
                        rfl
                      refine pure_ (i := 11) (N := some 142) (v := (.bool true)) (a' := ?_) #[true, true, true, true, true, true, true, true, true, true, true, true, false, false, false, false, false, false, false, false, false, false, false, false, false, false, false, false, false, false, false, false, false, false, false, false, false, false, false] rfl rfl (by kernel_rfl) (fun _ _ _ h => h) (Or.inl ⟨by rfl, ?_⟩) ?_ ?_
                      · intro w'
                        go_simp
                        first | done | rw [tA]
                      rotate_left
                      · simp only [Act.put, List.setIfInBounds_toArray, List.set_cons_zero, List.set_cons_succ, i64_w, i32_w]
                        rfl
                      refine pure_ (i := 12) (N := some 143) (v := ?_) (a' := ?_) #[true, true, true, true, true, true, true, true, true, true, true, true, true, false, false, false, false, false, false, false, false, false, false, false, false, false, false, false, false, false, false, false, false, false, false, false, false, false, false] rfl rfl (by kernel_rfl) (fun _ _ _ h => h) (Or.inl ⟨by rfl, ?_⟩) ?_ ?_
                      rotate_left
                      · intro w'
                        go_simp
                        first | with_reducible rfl | rfl
                      rotate_left
                      · simp only [Act.put, List.setIfInBounds_toArray, List.set_cons_zero, List.set_cons_succ, i64_w, i32_w]
                        rfl
                      refine pure_ (i := 13) (N := some 144) (v := ?_) (a' := ?_) #[true, true, true, true, true, true, true, true, true, true, true, true, true, true, false, false, false, false, false, false, false, false, false, false, false, false, false, false, false, false, false, false, false, false, false, false, false, false, false] rfl rfl (by kernel_rfl) (fun _ _ _ h => h) (Or.inl ⟨by rfl, ?_⟩) ?_ ?_
                      rotate_left
                      · intro w'
                        go_simp
                        first | with_reducible rfl | rfl
                      rotate_left
                      · simp only [Act.put, List.setIfInBounds_toArray, List.set_cons_zero, List.set_cons_succ, i64_w, i32_w]
                        rfl
                      refine pure_ (i := 14) (N := some 145) (v := ?_) (a' := ?_) #[true, true, true, true, true, true, true, true, true, true, true, true, true, true, true, false, false, false, false, false, false, false, false, false, false, false, false, false, false, false, false, false, false, false, false, false, false, false, false] rfl rfl (by kernel_rfl) (fun _ _ _ h => h) (Or.inl ⟨by rfl, ?_⟩) ?_ ?_
                      rotate_left
                      · intro w'
                        go_simp
                        first | with_reducible rfl | rfl
                      rotate_left
                      · simp only [Act.put, List.setIfInBounds_toArray, List.set_cons_zero, List.set_cons_succ, i64_w, i32_w]
                        rfl
                      refine pure_ (i := 15) (N := some 146) (v := ?_) (a' := ?_) #[true, true, true, true, true, true, true, true, true, true, true, true, true, true, true, true, false, false, false, false, false, false, false, false, false, false, false, false, false, false, false, false, false, false, false, false, false, false, false] rfl rfl (by kernel_rfl) (fun _ _ _ h => h) (Or.inl ⟨by rfl, ?_⟩) ?_ ?_
                      rotate_left
                      · intro w'
                        go_simp
                        first | with_reducible rfl | rfl
                      rotate_left
                      · simp only [Act.put, List.setIfInBounds_toArray, List.set_cons_zero, List.set_cons_succ, i64_w, i32_w]
                        rfl
                      refine pure_ (i := 16) (N := some 147) (v := ?_) (a' := ?_) #[true, true, true, true, true, true, true, true, true, true, true, true, true, true, true, true, true, false, false, false, false, false, false, false, false, false, false, false, false, false, false, false, false, false, false, false, false, false, false] rfl rfl (by kernel_rfl) (fun _ _ _ h => h) (Or.inl ⟨by rfl, ?_⟩) ?_ ?_
                      rotate_left
                      · intro w'
                        go_simp
                        first | with_reducible rfl | rfl
                      rotate_left
                      · simp only [Act.put, List.setIfInBounds_toArray, List.set_cons_zero, List.set_cons_succ, i64_w, i32_w]
                        rfl
                      refine take_ (i := 17) (N := some 148) (v := ?_) (a' := ?_) #[true, true, true, true, true, true, true, true, true, true, true, true, true, true, true, true, true, true, false, false, false, false, false, false, false, false, false, false, false, false, false, false, false, false, false, false, false, false, false] rfl rfl (by kernel_rfl) (fun _ _ _ h => h) (Or.inl ⟨by rfl, ?_⟩) hHeld ?_ ?_
                      rotate_left
                      · rintro w' ⟨⟨s0, s1, s2⟩, s3, s4, s5⟩
                        go_simp
                        first | with_reducible rfl | rfl
                      rotate_left
                      · simp only [Act.put, List.setIfInBounds_toArray, List.set_cons_zero, List.set_cons_succ, i64_w, i32_w]
                        rfl
                      refine pure_ (i := 18) (N := some 149) (v := ?_) (a' := ?_) #[true, true, true, true, true, true, true, true, true, true, true, true, true, true, true, true, true, true, true, false, false, false, false, false, false, false, false, false, false, false, false, false, false, false, false, false, false, false, false] rfl rfl (by kernel_rfl) (fun _ _ _ h => h) (Or.inl ⟨by rfl, ?_⟩) ?_ ?_
                      rotate_left
                      · intro w'
                        go_simp
                        first | with_reducible rfl | rfl
                      rotate_left
                      · simp only [Act.put, List.setIfInBounds_toArray, List.set_cons_zero, List.set_cons_succ, i64_w, i32_w]
                        rfl
                      refine pure_ (i := 19) (N := some 150) (v := ?_) (a' := ?_) #[true, true, true, true, true, true, true, true, true, true, true, true, true, true, true, true, true, true, true, true, false, false, false, false, false, false, false, false, false, false, false, false, false, false, false, false, false, false, false] rfl rfl (by kernel_rfl) (fun _ _ _ h => h) (Or.inl ⟨by rfl, ?_⟩) ?_ ?_
                      rotate_left
                      · intro w'
                        go_simp
                        first | with_reducible rfl | rfl
                      rotate_left
                      · simp only [Act.put, List.setIfInBounds_toArray, List.set_cons_zero, List.set_cons_succ, i64_w, i32_w]
                        rfl
                      refine pure_ (i := 20) (N := some 151) (v := ?_) (a' := ?_) #[true, true, true, true, true, true, true, true, true, true, true, true, true, true, true, true, true, true, true, true, true, false, false, false, false, false, false, false, false, false, false, false, false, false, false, false, false, false, false] rfl rfl (by kernel_rfl) (fun _ _ _ h => h) (Or.inl ⟨by rfl, ?_⟩) ?_ ?_
                      rotate_left
                      · intro w'
                        go_simp
                        first | with_reducible rfl | rfl
                      rotate_left
                      · simp only [Act.put, List.setIfInBounds_toArray, List.set_cons_zero, List.set_cons_succ, i64_w, i32_w]
                        rfl
                      refine pure_ (i := 21) (N := some 152) (v := ?_) (a' := ?_) #[true, true, true, true, true, true, true, true, true, true, true, true, true, true, true, true, true, true, true, true, true, true, false, false, false, false, false, false, false, false, false, false, false, false, false, false, false, false, false] rfl rfl (by kernel_rfl) (fun _ _ _ h => h) (Or.inl ⟨by rfl, ?_⟩) ?_ ?_
                      rotate_left
                      · intro w'
                        go_simp
                        first | with_reducible rfl | rfl
                      rotate_left
                      · simp only [Act.put, List.setIfInBounds_toArray, List.set_cons_zero, List.set_cons_succ, i64_w, i32_w]
                        rfl
                      refine take_ (i := 22) (N := some 153) (v := ?_) (a' := ?_) #[true, true, true, true, true, true, true, true, true, true, true, true, true, true, true, true, true, true, true, true, true, true, true, false, false, false, false, false, false, false, false, false, false, false, false, false, false, false, false] rfl rfl (by kernel_rfl) (fun _ _ _ h => h) (Or.inl ⟨by rfl, ?_⟩) hHeld ?_ ?_
                      rotate_left
                      · rintro w' ⟨⟨s0, s1, s2⟩, s3, s4, s5⟩
                        go_simp
                        first | with_reducible rfl | rfl
                      rotate_left
                      · simp only [Act.put, List.setIfInBounds_toArray, List.set_cons_zero, List.set_cons_succ, i64_w, i32_w]
                        rfl
                      refine pure_ (i := 23) (N := some 154) (v := (.bool true)) (a' := ?_) #[true, true, true, true, true, true, true, true, true, true, true, true, true, true, true, true, true, true, true, true, true, true, true, true, false, false, false, false, false, false, false, false, false, false, false, false, false, false, false] rfl rfl (by kernel_rfl) (fun _ _ _ h => h) (Or.inl ⟨by rfl, ?_⟩) ?_ ?_
                      · intro w'
                        go_simp
                        first | done | rw [tB]
                      rotate_left
                      · simp only [Act.put, List.setIfInBounds_toArray, List.set_cons_zero, List.set_cons_succ, i64_w, i32_w]
                        rfl
                      refine pure_ (i := 24) (N := some 155) (v := ?_) (a' := ?_) #[true, true, true, true, true, true, true, true, true, true, true, true, true, true, true, true, true, true, true, true, true, true, true, true, true, false, false, false, false, false, false, false, false, false, false, false, false, false, false] rfl rfl (by kernel_rfl) (fun _ _ _ h => h) (Or.inl ⟨by rfl, ?_⟩) ?_ ?_
                      rotate_left
                      · intro w'
                        go_simp
                        first | with_reducible rfl | rfl
                      rotate_left
                      · simp only [Act.put, List.setIfInBounds_toArray, List.set_cons_zero, List.set_cons_succ, i64_w, i32_w]
                        rfl
                      refine pure_ (i := 25) (N := some 156) (v := ?_) (a' := ?_) #[true, true, true, true, true, true, true, true, true, true, true, true, true, true, true, true, true, true, true, true, true, true, true, true, true, true, false, false, false, false, false, false, false, false, false, false, false, false, false] rfl rfl (by kernel_rfl) (fun _ _ _ h => h) (Or.inl ⟨by rfl, ?_⟩) ?_ ?_
                      rotate_left
                      · intro w'
                        go_simp
                        first | with_reducible rfl | rfl
                      rotate_left
                      · simp only [Act.put, List.setIfInBounds_toArray, List.set_cons_zero, List.set_cons_succ, i64_w, i32_w]
                        rfl
                      refine pure_ (i := 26) (N := some 157) (v := ?_) (a' := ?_) #[true, true, true, true, true, true, true, true, true, true, true, true, true, true, true, true, true, true, true, true, true, true, true, true, true, true, true, false, false, false, false, false, false, false, false, false, false, false, false] rfl rfl (by kernel_rfl) (fun _ _ _ h => h) (Or.inl ⟨by rfl, ?_⟩) ?_ ?_
                      rotate_left
                      · intro w'
                        go_simp
                        first | with_reducible rfl | rfl
                      rotate_left
                      · simp only [Act.put, List.setIfInBounds_toArray, List.set_cons_zero, List.set_cons_succ, i64_w, i32_w]
                        rfl
                      refine pure_ (i := 27) (N := some 158) (v := ?_) (a' := ?_) #[true, true, true, true, true, true, true, true, true, true, true, true, true, true, true, true, true, true, true, true, true, true, true, true, true, true, true, true, false, false, false, false, false, false, false, false, false, false, false] rfl rfl (by kernel_rfl) (fun _ _ _ h => h) (Or.inl ⟨by rfl, ?_⟩) ?_ ?_
                      rotate_left
                      · intro w'
                        go_simp
                        first | with_reducible rfl | rfl
                      rotate_left
                      · simp only [Act.put, List.setIfInBounds_toArray, List.set_cons_zero, List.set_cons_succ, i64_w, i32_w]
                        rfl
                      refine pure_ (i := 28) (N := some 159) (v := ?_) (a' := ?_) #[true, true, true, true, true, true, true, true, true, true, true, true, true, true, true, true, true, true, true, true, true, true, true, true, true, true, true, true, true, false, false, false, false, false, false, false, false, false, false] rfl rfl (by kernel_rfl) (fun _ _ _ h => h) (Or.inl ⟨by rfl, ?_⟩) ?_ ?_
                      rotate_left
                      · intro w'
                        go_simp
                        first | with_reducible rfl | rfl
                      rotate_left
                      · simp only [Act.put, List.setIfInBounds_toArray, List.set_cons_zero, List.set_cons_succ, i64_w, i32_w]
                        rfl
                      refine pure_ (i := 29) (N := some 160) (v := ?_) (a' := ?_) #[true, true, true, true, true, true, true, true, true, true, true, true, true, true, true, true, true, true, true, true, true, true, true, true, true, true, true, true, true, true, false, false, false, false, false, false, false, false, false] rfl rfl (by kernel_rfl) (fun _ _ _ h => h) (Or.inl ⟨by rfl, ?_⟩) ?_ ?_
                      rotate_left
                      · intro w'
                        go_simp
                        first | with_reducible rfl | rfl
                      rotate_left
                      · simp only [Act.put, List.setIfInBounds_toArray, List.set_cons_zero, List.set_cons_succ, i64_w, i32_w]
                        rfl
                      refine take_ (i := 30) (N := some 161) (v := ?_) (a' := ?_) #[true, true, true, true, true, true, true, true, true, true, true, true, true, true, true, true, true, true, true, true, true, true, true, true, true, true, true, true, true, true, true, false, false, false, false, false, false, false, false] rfl rfl (by kernel_rfl) (fun _ _ _ h => h) (Or.inl ⟨by rfl, ?_⟩) hHeld ?_ ?_
                      rotate_left
                      · rintro w' ⟨⟨s0, s1, s2⟩, s3, s4, s5⟩
                        go_simp
                        first | with_reducible rfl | rfl
                      rotate_left
                      · simp only [Act.put, List.setIfInBounds_toArray, List.set_cons_zero, List.set_cons_succ, i64_w, i32_w]
                        rfl
                      refine pure_ (i := 31) (N := some 162) (v := ?_) (a' := ?_) #[true, true, true, true, true, true, true, true, true, true, true, true, true, true, true, true, true, true, true, true, true, true, true, true, true, true, true, true, true, true, true, true, false, false, false, false, false, false, false] rfl rfl (by kernel_rfl) (fun _ _ _ h => h) (Or.inl ⟨by rfl, ?_⟩) ?_ ?_
                      rotate_left
                      · intro w'
                        go_simp
                        first | with_reducible rfl | rfl
                      rotate_left
                      · simp only [Act.put, List.setIfInBounds_toArray, List.set_cons_zero, List.set_cons_succ, i64_w, i32_w]
                        rfl
                      refine pure_ (i := 32) (N := some 163) (v := ?_) (a' := ?_) #[true, true, true, true, true, true, true, true, true, true, true, true, true, true, true, true, true, true, true, true, true, true, true, true, true, true, true, true, true, true, true, true, true, false, false, false, false, false, false] rfl rfl (by kernel_rfl) (fun _ _ _ h => h) (Or.inl ⟨by rfl, ?_⟩) ?_ ?_
                      rotate_left
                      · intro w'
                        go_simp
                        first | with_reducible rfl | rfl
                      rotate_left
                      · simp only [Act.put, List.setIfInBounds_toArray, List.set_cons_zero, List.set_cons_succ, i64_w, i32_w]
                        rfl
                      refine pure_ (i := 33) (N := some 164) (v := ?_) (a' := ?_) #[true, true, true, true, true, true, true, true, true, true, true, true, true, true, true, true, true, true, true, true, true, true, true, true, true, true, true, true, true, true, true, true, true, true, false, false, false, false, false] rfl rfl (by kernel_rfl) (fun _ _ _ h => h) (Or.inl ⟨by rfl, ?_⟩) ?_ ?_
                      rotate_left
                      · intro w'
                        go_simp
                        first | with_reducible rfl | rfl
                      rotate_left
                      · simp only [Act.put, List.setIfInBounds_toArray, List.set_cons_zero, List.set_cons_succ, i64_w, i32_w]
                        rfl
                      refine take_ (i := 34) (N := some 165) (v := ?_) (a' := ?_) #[true, true, true, true, true, true, true, true, true, true, true, true, true, true, true, true, true, true, true, true, true, true, true, true, true, true, true, true, true, true, true, true, true, true, true, false, false, false, false] rfl rfl (by kernel_rfl) (fun _ _ _ h => h) (Or.inl ⟨by rfl, ?_⟩) hHeld ?_ ?_
                      rotate_left
                      · rintro w' ⟨⟨s0, s1, s2⟩, s3, s4, s5⟩
                        go_simp
                        first | with_reducible rfl | rfl
                      rotate_left
                      · simp only [Act.put, List.setIfInBounds_toArray, List.set_cons_zero, List.set_cons_succ, i64_w, i32_w]
                        rfl
                      refine pure_ (i := 35) (N := some 166) (v := (.bool true)) (a' := ?_) #[true, true, true, true, true, true, true, true, true, true, true, true, true, true, true, true, true, true, true, true, true, true, true, true, true, true, true, true, true, true, true, true, true, true, true, true, false, false, false] rfl rfl (by kernel_rfl) (fun _ _ _ h => h) (Or.inl ⟨by rfl, ?_⟩) ?_ ?_
                      · intro w'
                        go_simp
                        first | done | rw [tC]
                      rotate_left
                      · simp only [Act.put, List.setIfInBounds_toArray, List.set_cons_zero, List.set_cons_succ, i64_w, i32_w]
                        rfl
                      refine pure_ (i := 36) (N := some 167) (v := ?_) (a' := ?_) #[true, true, true, true, true, true, true, true, true, true, true, true, true, true, true, true, true, true, true, true, true, true, true, true, true, true, true, true, true, true, true, true, true, true, true, true, true, false, false] rfl rfl (by kernel_rfl) (fun _ _ _ h => h) (Or.inl ⟨by rfl, ?_⟩) ?_ ?_
                      rotate_left
                      · intro w'
                        go_simp
                        first | with_reducible rfl | rfl
                      rotate_left
                      · simp only [Act.put, List.setIfInBounds_toArray, List.set_cons_zero, List.set_cons_succ, i64_w, i32_w]
                        rfl
                      refine pure_ (i := 37) (N := some 168) (v := ?_) (a' := ?_) #[true, true, true, true, true, true, true, true, true, true, true, true, true, true, true, true, true, true, true, true, true, true, true, true, true, true, true, true, true, true, true, true, true, true, true, true, true, true, false] rfl rfl (by kernel_rfl) (fun _ _ _ h => h) (Or.inl ⟨by rfl, ?_⟩) ?_ ?_
                      rotate_left
                      · intro w'
                        go_simp
                        first | with_reducible rfl | rfl
                      rotate_left
                      · simp only [Act.put, List.setIfInBounds_toArray, List.set_cons_zero, List.set_cons_succ, i64_w, i32_w]
                        rfl
                      refine pure_ (i := 38) (N := some 22) (v := ?_) (a' := ?_) #[true, true, true, true, true, true, true, true, true, true, true, true, true, true, true, true, true, true, true, true, true, true, true, true, true, true, true, true, true, true, true, true, true, true, true, true, true, true, true] rfl rfl (by kernel_rfl) (fun _ _ _ h => h) (Or.inl ⟨by rfl, ?_⟩) ?_ ?_
                      rotate_left
                      · intro w'
                        go_simp
                        first | with_reducible rfl | rfl
                      rotate_left
                      · simp only [Act.put, List.setIfInBounds_toArray, List.set_cons_zero, List.set_cons_succ, i64_w, i32_w]
                        rfl
                      refine done_ (by kernel_rfl) ?_
                      go_wp2_with fail
                      go_roundw
                      case rel => exact ⟨q + 1, true, hqn3.out, by (rw [hq3.out]; try go_num), rfl, fun _ => rfl, H6.out.step (Below.refl _ _).drew⟩
                      case measure => have := hr7.out; clear tk1 tk2 tr0 tr1 tr2 hw1 hw2; simp [intOf]; omega
                    · have hne : ¬ y = x := fun h => hC (by rw [h])
                      have tA := beq_iff_eq.mpr hA
                      have tB := beq_iff_eq.mpr hB
                      have tC : (y.a == x.a) = false := beq_eq_false_iff_ne.mpr hC
                      replace hA := Lib.hid hA
                      replace hB := Lib.hid hB
                      replace hC := Lib.hid hC
                      replace hne := Lib.hid hne
                      go_wp2_with fail
                      refine start_ (n := 39) (S := fun w' => (w'.cell? ⟨b3, r, none⟩ = some (.int .i64 y.t) ∧ w'.cell? ⟨b3, r1, none⟩ = some (.int .i64 y.n) ∧ w'.cell? ⟨b3, r2, none⟩ = some (.int .i64 y.a)) ∧ w'.cell? ⟨b1, i * 2, none⟩ = some (.int .i64 x.t) ∧ w'.cell? ⟨b1, i * 2 + 1, none⟩ = some (.int .i64 x.n) ∧ w'.cell? ⟨b2, i, none⟩ = some (.int .i64 x.a)) (ds := []) #[false, false, false, false, false, false, false, false, false, false, false, false, false, false, false, false, false, false, false, false, false, false, false, false, false, false, false, false, false, false, false, false, false, false, false, false, false, false, false] (by kernel_rfl) rfl rfl ⟨⟨y0, y1, y2⟩, x0, x1, x2⟩ (fun hHeld => ?_)
                      refine pure_ (i := 0) (N := some 131) (v := ?_) (a' := ?_) #[true, false, false, false, false, false, false, false, false, false, false, false, false, false, false, false, false, false, false, false, false, false, false, false, false, false, false, false, false, false, false, false, false, false, false, false, false, false, false] rfl rfl (by kernel_rfl) (fun _ _ _ h => h) (Or.inl ⟨by rfl, ?_⟩) ?_ ?_
                      rotate_left
                      · intro w'
                        go_simp
                        first | with_reducible rfl | rfl
                      rotate_left
                      · simp only [Act.put, List.setIfInBounds_toArray, List.set_cons_zero, List.set_cons_succ, i64_w, i32_w]
                        rfl
                      refine pure_ (i := 1) (N := some 132) (v := ?_) (a' := ?_) #[true, true, false, false, false, false, false, false, false, false, false, false, false, false, false, false, false, false, false, false, false, false, false, false, false, false, false, false, false, false, false, false, false, false, false, false, false, false, false] rfl rfl (by kernel_rfl) (fun _ _ _ h => h) (Or.inl ⟨by rfl, ?_⟩) ?_ ?_
                      rotate_left
                      · intro w'
                        go_simp
                        first | with_reducible rfl | rfl
                      rotate_left
                      · simp only [Act.put, List.setIfInBounds_toArray, List.set_cons_zero, List.set_cons_succ, i64_w, i32_w]
                        rfl
                      refine pure_ (i := 2) (N := some 133) (v := ?_) (a' := ?_) #[true, true, true, false, false, false, false, false, false, false, false, false, false, false, false, false, false, false, false, false, false, false, false, false, false, false, false, false, false, false, false, false, false, false, false, false, false, false, false] rfl rfl (by kernel_rfl) (fun _ _ _ h => h) (Or.inl ⟨by rfl, ?_⟩) ?_ ?_
                      rotate_left
                      · intro w'
                        go_simp
                        first | with_reducible rfl | rfl
                      rotate_left
                      · simp only [Act.put, List.setIfInBounds_toArray, List.set_cons_zero, List.set_cons_succ, i64_w, i32_w]
                        rfl
                      refine pure_ (i := 3) (N := some 134) (v := ?_) (a' := ?_) #[true, true, true, true, false, false, false, false, false, false, false, false, false, false, false, false, false, false, false, false, false, false, false, false, false, false, false, false, false, false, false, false, false, false, false, false, false, false, false] rfl rfl (by kernel_rfl) (fun _ _ _ h => h) (Or.inl ⟨by rfl, ?_⟩) ?_ ?_
                      rotate_left
                      · intro w'
                        go_simp
                        first | with_reducible rfl | rfl
                      rotate_left
                      · simp only [Act.put, List.setIfInBounds_toArray, List.set_cons_zero, List.set_cons_succ, i64_w, i32_w]
                        rfl
                      refine pure_ (i := 4) (N := some 135) (v := ?_) (a' := ?_) #[true, true, true, true, true, false, false, false, false, false, false, false, false, false, false, false, false, false, false, false, false, false, false, false, false, false, false, false, false, false, false, false, false, false, false, false, false, false, false] rfl rfl (by kernel_rfl) (fun _ _ _ h => h) (Or.inl ⟨by rfl, ?_⟩) ?_ ?_
                      rotate_left
                      · intro w'
                        go_simp
                        first | with_reducible rfl | rfl
                      rotate_left
                      · simp only [Act.put, List.setIfInBounds_toArray, List.set_cons_zero, List.set_cons_succ, i64_w, i32_w]
                        rfl
                      refine take_ (i := 5) (N := some 136) (v := ?_) (a' := ?_) #[true, true, true, true, true, true, false, false, false, false, false, false, false, false, false, false, false, false, false, false, false, false, false, false, false, false, false, false, false, false, false, false, false, false, false, false, false, false, false] rfl rfl (by kernel_rfl) (fun _ _ _ h => h) (Or.inl ⟨by rfl, ?_⟩) hHeld ?_ ?_
                      rotate_left
                      · rintro w' ⟨⟨s0, s1, s2⟩, s3, s4, s5⟩
                        go_simp
                        first | with_reducible rfl | rfl
                      rotate_left
                      · simp only [Act.put, List.setIfInBounds_toArray, List.set_cons_zero, List.set_cons_succ, i64_w, i32_w]
                        rfl
                      refine pure_ (i := 6) (N := some 137) (v := ?_) (a' := ?_) #[true, true, true, true, true, true, true, false, false, false, false, false, false, false, false, false, false, false, false, false, false, false, false, false, false, false, false, false, false, false, false, false, false, false, false, false, false, false, false] rfl rfl (by kernel_rfl) (fun _ _ _ h => h) (Or.inl ⟨by rfl, ?_⟩) ?_ ?_
                      rotate_left
                      · intro w'
                        go_simp
                        first | with_reducible rfl | rfl
                      rotate_left
                      · simp only [Act.put, List.setIfInBounds_toArray, List.set_cons_zero, List.set_cons_succ, i64_w, i32_w]
                        rfl
                      refine pure_ (i := 7) (N := some 138) (v := ?_) (a' := ?_) #[true, true, true, true, true, true, true, true, false, false, false, false, false, false, false, false, false, false, false, false, false, false, false, false, false, false, false, false, false, false, false, false, false, false, false, false, false, false, false] rfl rfl (by kernel_rfl) (fun _ _ _ h => h) (Or.inl ⟨by rfl, ?_⟩) ?_ ?_
                      rotate_left
                      · intro w'
                        go_simp
                        first | with_reducible rfl | rfl
                      rotate_left
                      · simp only [Act.put, List.setIfInBounds_toArray, List.set_cons_zero, List.set_cons_succ, i64_w, i32_w]
                        rfl
                      refine pure_ (i := 8) (N := some 139) (v := ?_) (a' := ?_) #[true, true, true, true, true, true, true, true, true, false, false, false, false, false, false, false, false, false, false, false, false, false, false, false, false, false, false, false, false, false, false, false, false, false, false, false, false, false, false] rfl rfl (by kernel_rfl) (fun _ _ _ h => h) (Or.inl ⟨by rfl, ?_⟩) ?_ ?_
                      rotate_left
                      · intro w'
                        go_simp
                        first | with_reducible rfl | rfl
                      rotate_left
                      · simp only [Act.put, List.setIfInBounds_toArray, List.set_cons_zero, List.set_cons_succ, i64_w, i32_w]
                        rfl
                      refine pure_ (i := 9) (N := some 140) (v := ?_) (a' := ?_) #[true, true, true, true, true, true, true, true, true, true, false, false, false, false, false, false, false, false, false, false, false, false, false, false, false, false, false, false, false, false, false, false, false, false, false, false, false, false, false] rfl rfl (by kernel_rfl) (fun _ _ _ h => h) (Or.inl ⟨by rfl, ?_⟩) ?_ ?_
                      rotate_left
                      · intro w'
                        go_simp
                        first | with_reducible rfl | rfl
                      rotate_left
                      · simp only [Act.put, List.setIfInBounds_toArray, List.set_cons_zero, List.set_cons_succ, i64_w, i32_w]
                        rfl
                      refine take_ (i := 10) (N := some 141) (v := ?_) (a' := ?_) #[true, true, true, true, true, true, true, true, true, true, true, false, false, false, false, false, false, false, false, false, false, false, false, false, false, false, false, false, false, false, false, false, false, false, false, false, false, false, false] rfl rfl (by kernel_rfl) (fun _ _ _ h => h) (Or.inl ⟨by rfl, ?_⟩) hHeld ?_ ?_
                      rotate_left
                      · rintro w' ⟨⟨s0, s1, s2⟩, s3, s4, s5⟩
                        go_simp
                        first | with_reducible rfl | rfl
                      rotate_left
                      · simp only [Act.put, List.setIfInBounds_toArray, List.set_cons_zero, List.set_cons_succ, i64_w, i32_w]
                        rfl
                      refine pure_ (i := 11) (N := some 142) (v := (.bool true)) (a' := ?_) #[true, true, true, true, true, true, true, true, true, true, true, true, false, false, false, false, false, false, false, false, false, false, false, false, false, false, false, false, false, false, false, false, false, false, false, false, false, false, false] rfl rfl (by kernel_rfl) (fun _ _ _ h => h) (Or.inl ⟨by rfl, ?_⟩) ?_ ?_
                      · intro w'
                        go_simp
                        first | done | rw [tA]
                      rotate_left
                      · simp only [Act.put, List.setIfInBounds_toArray, List.set_cons_zero, List.set_cons_succ, i64_w, i32_w]
                        rfl
                      refine pure_ (i := 12) (N := some 143) (v := ?_) (a' := ?_) #[true, true, true, true, true, true, true, true, true, true, true, true, true, false, false, false, false, false, false, false, false, false, false, false, false, false, false, false, false, false, false, false, false, false, false, false, false, false, false] rfl rfl (by kernel_rfl) (fun _ _ _ h => h) (Or.inl ⟨by rfl, ?_⟩) ?_ ?_
                      rotate_left
                      · intro w'
                        go_simp
                        first | with_reducible rfl | rfl
                      rotate_left
                      · simp only [Act.put, List.setIfInBounds_toArray, List.set_cons_zero, List.set_cons_succ, i64_w, i32_w]
                        rfl
                      refine pure_ (i := 13) (N := some 144) (v := ?_) (a' := ?_) #[true, true, true, true, true, true, true, true, true, true, true, true, true, true, false, false, false, false, false, false, false, false, false, false, false, false, false, false, false, false, false, false, false, false, false, false, false, false, false] rfl rfl (by kernel_rfl) (fun _ _ _ h => h) (Or.inl ⟨by rfl, ?_⟩) ?_ ?_
                      rotate_left
                      · intro w'
                        go_simp
                        first | with_reducible rfl | rfl
                      rotate_left
                      · simp only [Act.put, List.setIfInBounds_toArray, List.set_cons_zero, List.set_cons_succ, i64_w, i32_w]
                        rfl
                      refine pure_ (i := 14) (N := some 145) (v := ?_) (a' := ?_) #[true, true, true, true, true, true, true, true, true, true, true, true, true, true, true, false, false, false, false, false, false, false, false, false, false, false, false, false, false, false, false, false, false, false, false, false, false, false, false] rfl rfl (by kernel_rfl) (fun _ _ _ h => h) (Or.inl ⟨by rfl, ?_⟩) ?_ ?_
                      rotate_left
                      · intro w'
                        go_simp
                        first | with_reducible rfl | rfl
                      rotate_left
                      · simp only [Act.put, List.setIfInBounds_toArray, List.set_cons_zero, List.set_cons_succ, i64_w, i32_w]
                        rfl
                      refine pure_ (i := 15) (N := some 146) (v := ?_) (a' := ?_) #[true, true, true, true, true, true, true, true, true, true, true, true, true, true, true, true, false, false, false, false, false, false, false, false, false, false, false, false, false, false, false, false, false, false, false, false, false, false, false] rfl rfl (by kernel_rfl) (fun _ _ _ h => h) (Or.inl ⟨by rfl, ?_⟩) ?_ ?_
                      rotate_left
                      · intro w'
                        go_simp
                        first | with_reducible rfl | rfl
                      rotate_left
                      · simp only [Act.put, List.setIfInBounds_toArray, List.set_cons_zero, List.set_cons_succ, i64_w, i32_w]
                        rfl
                      refine pure_ (i := 16) (N := some 147) (v := ?_) (a' := ?_) #[true, true, true, true, true, true, true, true, true, true, true, true, true, true, true, true, true, false, false, false, false, false, false, false, false, false, false, false, false, false, false, false, false, false, false, false, false, false, false] rfl rfl (by kernel_rfl) (fun _ _ _ h => h) (Or.inl ⟨by rfl, ?_⟩) ?_ ?_
                      rotate_left
                      · intro w'
                        go_simp
                        first | with_reducible rfl | rfl
                      rotate_left
                      · simp only [Act.put, List.setIfInBounds_toArray, List.set_cons_zero, List.set_cons_succ, i64_w, i32_w]
                        rfl
                      refine take_ (i := 17) (N := some 148) (v := ?_) (a' := ?_) #[true, true, true, true, true, true, true, true, true, true, true, true, true, true, true, true, true, true, false, false, false, false, false, false, false, false, false, false, false, false, false, false, false, false, false, false, false, false, false] rfl rfl (by kernel_rfl) (fun _ _ _ h => h) (Or.inl ⟨by rfl, ?_⟩) hHeld ?_ ?_
                      rotate_left
                      · rintro w' ⟨⟨s0, s1, s2⟩, s3, s4, s5⟩
                        go_simp
                        first | with_reducible rfl | rfl
                      rotate_left
                      · simp only [Act.put, List.setIfInBounds_toArray, List.set_cons_zero, List.set_cons_succ, i64_w, i32_w]
                        rfl
                      refine pure_ (i := 18) (N := some 149) (v := ?_) (a' := ?_) #[true, true, true, true, true, true, true, true, true, true, true, true, true, true, true, true, true, true, true, false, false, false, false, false, false, false, false, false, false, false, false, false, false, false, false, false, false, false, false] rfl rfl (by kernel_rfl) (fun _ _ _ h => h) (Or.inl ⟨by rfl, ?_⟩) ?_ ?_
                      rotate_left
                      · intro w'
                        go_simp
                        first | with_reducible rfl | rfl
                      rotate_left
                      · simp only [Act.put, List.setIfInBounds_toArray, List.set_cons_zero, List.set_cons_succ, i64_w, i32_w]
                        rfl
                      refine pure_ (i := 19) (N := some 150) (v := ?_) (a' := ?_) #[true, true, true, true, true, true, true, true, true, true, true, true, true, true, true, true, true, true, true, true, false, false, false, false, false, false, false, false, false, false, false, false, false, false, false, false, false, false, false] rfl rfl (by kernel_rfl) (fun _ _ _ h => h) (Or.inl ⟨by rfl, ?_⟩) ?_ ?_
                      rotate_left
                      · intro w'
                        go_simp
                        first | with_reducible rfl | rfl
                      rotate_left
                      · simp only [Act.put, List.setIfInBounds_toArray, List.set_cons_zero, List.set_cons_succ, i64_w, i32_w]
                        rfl
                      refine pure_ (i := 20) (N := some 151) (v := ?_) (a' := ?_) #[true, true, true, true, true, true, true, true, true, true, true, true, true, true, true, true, true, true, true, true, true, false, false, false, false, false, false, false, false, false, false, false, false, false, false, false, false, false, false] rfl rfl (by kernel_rfl) (fun _ _ _ h => h) (Or.inl ⟨by rfl, ?_⟩) ?_ ?_
                      rotate_left
                      · intro w'
                        go_simp
                        first | with_reducible rfl | rfl
                      rotate_left
                      · simp only [Act.put, List.setIfInBounds_toArray, List.set_cons_zero, List.set_cons_succ, i64_w, i32_w]
                        rfl
                      refine pure_ (i := 21) (N := some 152) (v := ?_) (a' := ?_) #[true, true, true, true, true, true, true, true, true, true, true, true, true, true, true, true, true, true, true, true, true, true, false, false, false, false, false, false, false, false, false, false, false, false, false, false, false, false, false] rfl rfl (by kernel_rfl) (fun _ _ _ h => h) (Or.inl ⟨by rfl, ?_⟩) ?_ ?_
                      rotate_left
                      · intro w'
                        go_simp
                        first | with_reducible rfl | rfl
                      rotate_left
                      · simp only [Act.put, List.setIfInBounds_toArray, List.set_cons_zero, List.set_cons_succ, i64_w, i32_w]
                        rfl
                      refine take_ (i := 22) (N := some 153) (v := ?_) (a' := ?_) #[true, true, true, true, true, true, true, true, true, true, true, true, true, true, true, true, true, true, true, true, true, true, true, false, false, false, false, false, false, false, false, false, false, false, false, false, false, false, false] rfl rfl (by kernel_rfl) (fun _ _ _ h => h) (Or.inl ⟨by rfl, ?_⟩) hHeld ?_ ?_
                      rotate_left
                      · rintro w' ⟨⟨s0, s1, s2⟩, s3, s4, s5⟩
                        go_simp
                        first | with_reducible rfl | rfl
                      rotate_left
                      · simp only [Act.put, List.setIfInBounds_toArray, List.set_cons_zero, List.set_cons_succ, i64_w, i32_w]
                        rfl
                      refine pure_ (i := 23) (N := some 154) (v := (.bool true)) (a' := ?_) #[true, true, true, true, true, true, true, true, true, true, true, true, true, true, true, true, true, true, true, true, true, true, true, true, false, false, false, false, false, false, false, false, false, false, false, false, false, false, false] rfl rfl (by kernel_rfl) (fun _ _ _ h => h) (Or.inl ⟨by rfl, ?_⟩) ?_ ?_
                      · intro w'
                        go_simp
                        first | done | rw [tB]
                      rotate_left
                      · simp only [Act.put, List.setIfInBounds_toArray, List.set_cons_zero, List.set_cons_succ, i64_w, i32_w]
                        rfl
                      refine pure_ (i := 24) (N := some 155) (v := ?_) (a' := ?_) #[true, true, true, true, true, true, true, true, true, true, true, true, true, true, true, true, true, true, true, true, true, true, true, true, true, false, false, false, false, false, false, false, false, false, false, false, false, false, false] rfl rfl (by kernel_rfl) (fun _ _ _ h => h) (Or.inl ⟨by rfl, ?_⟩) ?_ ?_
                      rotate_left
                      · intro w'
                        go_simp
                        first | with_reducible rfl | rfl
                      rotate_left
                      · simp only [Act.put, List.setIfInBounds_toArray, List.set_cons_zero, List.set_cons_succ, i64_w, i32_w]
                        rfl
                      refine pure_ (i := 25) (N := some 156) (v := ?_) (a' := ?_) #[true, true, true, true, true, true, true, true, true, true, true, true, true, true, true, true, true, true, true, true, true, true, true, true, true, true, false, false, false, false, false, false, false, false, false, false, false, false, false] rfl rfl (by kernel_rfl) (fun _ _ _ h => h) (Or.inl ⟨by rfl, ?_⟩) ?_ ?_
                      rotate_left
                      · intro w'
                        go_simp
                        first | with_reducible rfl | rfl
                      rotate_left
                      · simp only [Act.put, List.setIfInBounds_toArray, List.set_cons_zero, List.set_cons_succ, i64_w, i32_w]
                        rfl
                      refine pure_ (i := 26) (N := some 157) (v := ?_) (a' := ?_) #[true, true, true, true, true, true, true, true, true, true, true, true, true, true, true, true, true, true, true, true, true, true, true, true, true, true, true, false, false, false, false, false, false, false, false, false, false, false, false] rfl rfl (by kernel_rfl) (fun _ _ _ h => h) (Or.inl ⟨by rfl, ?_⟩) ?_ ?_
                      rotate_left
                      · intro w'
                        go_simp
                        first | with_reducible rfl | rfl
                      rotate_left
                      · simp only [Act.put, List.setIfInBounds_toArray, List.set_cons_zero, List.set_cons_succ, i64_w, i32_w]
                        rfl
                      refine pure_ (i := 27) (N := some 158) (v := ?_) (a' := ?_) #[true, true, true, true, true, true, true, true, true, true, true, true, true, true, true, true, true, true, true, true, true, true, true, true, true, true, true, true, false, false, false, false, false, false, false, false, false, false, false] rfl rfl (by kernel_rfl) (fun _ _ _ h => h) (Or.inl ⟨by rfl, ?_⟩) ?_ ?_
                      rotate_left
                      · intro w'
                        go_simp
                        first | with_reducible rfl | rfl
                      rotate_left
                      · simp only [Act.put, List.setIfInBounds_toArray, List.set_cons_zero, List.set_cons_succ, i64_w, i32_w]
                        rfl
                      refine pure_ (i := 28) (N := some 159) (v := ?_) (a' := ?_) #[true, true, true, true, true, true, true, true, true, true, true, true, true, true, true, true, true, true, true, true, true, true, true, true, true, true, true, true, true, false, false, false, false, false, false, false, false, false, false] rfl rfl (by kernel_rfl) (fun _ _ _ h => h) (Or.inl ⟨by rfl, ?_⟩) ?_ ?_
                      rotate_left
                      · intro w'
                        go_simp
                        first | with_reducible rfl | rfl
                      rotate_left
                      · simp only [Act.put, List.setIfInBounds_toArray, List.set_cons_zero, List.set_cons_succ, i64_w, i32_w]
                        rfl
                      refine pure_ (i := 29) (N := some 160) (v := ?_) (a' := ?_) #[true, true, true, true, true, true, true, true, true, true, true, true, true, true, true, true, true, true, true, true, true, true, true, true, true, true, true, true, true, true, false, false, false, false, false, false, false, false, false] rfl rfl (by kernel_rfl) (fun _ _ _ h => h) (Or.inl ⟨by rfl, ?_⟩) ?_ ?_
                      rotate_left
                      · intro w'
                        go_simp
                        first | with_reducible rfl | rfl
                      rotate_left
                      · simp only [Act.put, List.setIfInBounds_toArray, List.set_cons_zero, List.set_cons_succ, i64_w, i32_w]
                        rfl
                      refine take_ (i := 30) (N := some 161) (v := ?_) (a' := ?_) #[true, true, true, true, true, true, true, true, true, true, true, true, true, true, true, true, true, true, true, true, true, true, true, true, true, true, true, true, true, true, true, false, false, false, false, false, false, false, false] rfl rfl (by kernel_rfl) (fun _ _ _ h => h) (Or.inl ⟨by rfl, ?_⟩) hHeld ?_ ?_
                      rotate_left
                      · rintro w' ⟨⟨s0, s1, s2⟩, s3, s4, s5⟩
                        go_simp
                        first | with_reducible rfl | rfl
                      rotate_left
                      · simp only [Act.put, List.setIfInBounds_toArray, List.set_cons_zero, List.set_cons_succ, i64_w, i32_w]
                        rfl
                      refine pure_ (i := 31) (N := some 162) (v := ?_) (a' := ?_) #[true, true, true, true, true, true, true, true, true, true, true, true, true, true, true, true, true, true, true, true, true, true, true, true, true, true, true, true, true, true, true, true, false, false, false, false, false, false, false] rfl rfl (by kernel_rfl) (fun _ _ _ h => h) (Or.inl ⟨by rfl, ?_⟩) ?_ ?_
                      rotate_left
                      · intro w'
                        go_simp
                        first | with_reducible rfl | rfl
                      rotate_left
                      · simp only [Act.put, List.setIfInBounds_toArray, List.set_cons_zero, List.set_cons_succ, i64_w, i32_w]
                        rfl
                      refine pure_ (i := 32) (N := some 163) (v := ?_) (a' := ?_) #[true, true, true, true, true, true, true, true, true, true, true, true, true, true, true, true, true, true, true, true, true, true, true, true, true, true, true, true, true, true, true, true, true, false, false, false, false, false, false] rfl rfl (by kernel_rfl) (fun _ _ _ h => h) (Or.inl ⟨by rfl, ?_⟩) ?_ ?_
                      rotate_left
                      · intro w'
                        go_simp
                        first | with_reducible rfl | rfl
                      rotate_left
                      · simp only [Act.put, List.setIfInBounds_toArray, List.set_cons_zero, List.set_cons_succ, i64_w, i32_w]
                        rfl
                      refine pure_ (i := 33) (N := some 164) (v := ?_) (a' := ?_) #[true, true, true, true, true, true, true, true, true, true, true, true, true, true, true, true, true, true, true, true, true, true, true, true, true, true, true, true, true, true, true, true, true, true, false, false, false, false, false] rfl rfl (by kernel_rfl) (fun _ _ _ h => h) (Or.inl ⟨by rfl, ?_⟩) ?_ ?_
                      rotate_left
                      · intro w'
                        go_simp
                        first | with_reducible rfl | rfl
                      rotate_left
                      · simp only [Act.put, List.setIfInBounds_toArray, List.set_cons_zero, List.set_cons_succ, i64_w, i32_w]
                        rfl
                      refine take_ (i := 34) (N := some 165) (v := ?_) (a' := ?_) #[true, true, true, true, true, true, true, true, true, true, true, true, true, true, true, true, true, true, true, true, true, true, true, true, true, true, true, true, true, true, true, true, true, true, true, false, false, false, false] rfl rfl (by kernel_rfl) (fun _ _ _ h => h) (Or.inl ⟨by rfl, ?_⟩) hHeld ?_ ?_
                      rotate_left
                      · rintro w' ⟨⟨s0, s1, s2⟩, s3, s4, s5⟩
                        go_simp
                        first | with_reducible rfl | rfl
                      rotate_left
                      · simp only [Act.put, List.setIfInBounds_toArray, List.set_cons_zero, List.set_cons_succ, i64_w, i32_w]
                        rfl
                      refine pure_ (i := 35) (N := some 166) (v := (.bool false)) (a' := ?_) #[true, true, true, true, true, true, true, true, true, true, true, true, true, true, true, true, true, true, true, true, true, true, true, true, true, true, true, true, true, true, true, true, true, true, true, true, false, false, false] rfl rfl (by kernel_rfl) (fun _ _ _ h => h) (Or.inl ⟨by rfl, ?_⟩) ?_ ?_
                      · intro w'
                        go_simp
                        first | done | rw [tC]
                      rotate_left
                      · simp only [Act.put, List.setIfInBounds_toArray, List.set_cons_zero, List.set_cons_succ, i64_w, i32_w]
                        rfl
                      refine pure_ (i := 36) (N := some 167) (v := ?_) (a' := ?_) #[true, true, true, true, true, true, true, true, true, true, true, true, true, true, true, true, true, true, true, true, true, true, true, true, true, true, true, true, true, true, true, true, true, true, true, true, true, false, false] rfl rfl (by kernel_rfl) (fun _ _ _ h => h) (Or.inl ⟨by rfl, ?_⟩) ?_ ?_
                      rotate_left
                      · intro w'
                        go_simp
                        first | with_reducible rfl | rfl
                      rotate_left
                      · simp only [Act.put, List.setIfInBounds_toArray, List.set_cons_zero, List.set_cons_succ, i64_w, i32_w]
                        rfl
                      refine pure_ (i := 37) (N := some 168) (v := ?_) (a' := ?_) #[true, true, true, true, true, true, true, true, true, true, true, true, true, true, true, true, true, true, true, true, true, true, true, true, true, true, true, true, true, true, true, true, true, true, true, true, true, true, false] rfl rfl (by kernel_rfl) (fun _ _ _ h => h) (Or.inl ⟨by rfl, ?_⟩) ?_ ?_
                      rotate_left
                      · intro w'
                        go_simp
                        first | with_reducible rfl | rfl
                      rotate_left
                      · simp only [Act.put, List.setIfInBounds_toArray, List.set_cons_zero, List.set_cons_succ, i64_w, i32_w]
                        rfl
                      refine pure_ (i := 38) (N := some 22) (v := ?_) (a' := ?_) #[true, true, true, true, true, true, true, true, true, true, true, true, true, true, true, true, true, true, true, true, true, true, true, true, true, true, true, true, true, true, true, true, true, true, true, true, true, true, true] rfl rfl (by kernel_rfl) (fun _ _ _ h => h) (Or.inl ⟨by rfl, ?_⟩) ?_ ?_
                      rotate_left
                      · intro w'
                        go_simp
                        first | with_reducible rfl | rfl
                      rotate_left
                      · simp only [Act.put, List.setIfInBounds_toArray, List.set_cons_zero, List.set_cons_succ, i64_w, i32_w]
                        rfl
                      refine done_ (by kernel_rfl) ?_
                      go_wp2_with fail
                      go_roundw
                      case rel => exact ⟨q + 1, false, hqn3.out, by (rw [hq3.out]; try go_num), rfl, fun h => (Nat.lt_succ_iff_lt_or_eq.1 h).elim hb.out (fun h => absurd (hyx.out h.symm) hne.out), H6.out.step (Below.refl _ _).drew⟩
                      case measure => have := hr7.out; clear tk1 tk2 tr0 tr1 tr2 hw1 hw2; simp [intOf]; omega
                  · have hne : ¬ y = x := fun h => hB (by rw [h])
                    have tA := beq_iff_eq.mpr hA
                    have tB : (y.n == x.n) = false := beq_eq_false_iff_ne.mpr hB
                    replace hA := Lib.hid hA
                    replace hB := Lib.hid hB
                    replace hne := Lib.hid hne
                    go_wp2_with fail
                    refine start_ (n := 39) (S := fun w' => (w'.cell? ⟨b3, r, none⟩ = some (.int .i64 y.t) ∧ w'.cell? ⟨b3, r1, none⟩ = some (.int .i64 y.n) ∧ w'.cell? ⟨b3, r2, none⟩ = some (.int .i64 y.a)) ∧ w'.cell? ⟨b1, i * 2, none⟩ = some (.int .i64 x.t) ∧ w'.cell? ⟨b1, i * 2 + 1, none⟩ = some (.int .i64 x.n) ∧ w'.cell? ⟨b2, i, none⟩ = some (.int .i64 x.a)) (ds := []) #[false, false, false, false, false, false, false, false, false, false, false, false, false, false, false, false, false, false, false, false, false, false, false, false, false, false, false, false, false, false, false, false, false, false, false, false, false, false, false] (by kernel_rfl) rfl rfl ⟨⟨y0, y1, y2⟩, x0, x1, x2⟩ (fun hHeld => ?_)
                    refine pure_ (i := 0) (N := some 131) (v := ?_) (a' := ?_) #[true, false, false, false, false, false, false, false, false, false, false, false, false, false, false, false, false, false, false, false, false, false, false, false, false, false, false, false, false, false, false, false, false, false, false, false, false, false, false] rfl rfl (by kernel_rfl) (fun _ _ _ h => h) (Or.inl ⟨by rfl, ?_⟩) ?_ ?_
                    rotate_left
                    · intro w'
                      go_simp
                      first | with_reducible rfl | rfl
                    rotate_left
                    · simp only [Act.put, List.setIfInBounds_toArray, List.set_cons_zero, List.set_cons_succ, i64_w, i32_w]
                      rfl
                    refine pure_ (i := 1) (N := some 132) (v := ?_) (a' := ?_) #[true, true, false, false, false, false, false, false, false, false, false, false, false, false, false, false, false, false, false, false, false, false, false, false, false, false, false, false, false, false, false, false, false, false, false, false, false, false, false] rfl rfl (by kernel_rfl) (fun _ _ _ h => h) (Or.inl ⟨by rfl, ?_⟩) ?_ ?_
                    rotate_left
                    · intro w'
                      go_simp
                      first | with_reducible rfl | rfl
                    rotate_left
                    · simp only [Act.put, List.setIfInBounds_toArray, List.set_cons_zero, List.set_cons_succ, i64_w, i32_w]
                      rfl
                    refine pure_ (i := 2) (N := some 133) (v := ?_) (a' := ?_) #[true, true, true, false, false, false, false, false, false, false, false, false, false, false, false, false, false, false, false, false, false, false, false, false, false, false, false, false, false, false, false, false, false, false, false, false, false, false, false] rfl rfl (by kernel_rfl) (fun _ _ _ h => h) (Or.inl ⟨by rfl, ?_⟩) ?_ ?_
                    rotate_left
                    · intro w'
                      go_simp
                      first | with_reducible rfl | rfl
                    rotate_left
                    · simp only [Act.put, List.setIfInBounds_toArray, List.set_cons_zero, List.set_cons_succ, i64_w, i32_w]
                      rfl
                    refine pure_ (i := 3) (N := some 134) (v := ?_) (a' := ?_) #[true, true, true, true, false, false, false, false, false, false, false, false, false, false, false, false, false, false, false, false, false, false, false, false, false, false, false, false, false, false, false, false, false, false, false, false, false, false, false] rfl rfl (by kernel_rfl) (fun _ _ _ h => h) (Or.inl ⟨by rfl, ?_⟩) ?_ ?_
                    rotate_left
                    · intro w'
                      go_simp
                      first | with_reducible rfl | rfl
                    rotate_left
                    · simp only [Act.put, List.setIfInBounds_toArray, List.set_cons_zero, List.set_cons_succ, i64_w, i32_w]
                      rfl
                    refine pure_ (i := 4) (N := some 135) (v := ?_) (a' := ?_) #[true, true, true, true, true, false, false, false, false, false, false, false, false, false, false, false, false, false, false, false, false, false, false, false, false, false, false, false, false, false, false, false, false, false, false, false, false, false, false] rfl rfl (by kernel_rfl) (fun _ _ _ h => h) (Or.inl ⟨by rfl, ?_⟩) ?_ ?_
                    rotate_left
                    · intro w'
                      go_simp
                      first | with_reducible rfl | rfl
                    rotate_left
                    · simp only [Act.put, List.setIfInBounds_toArray, List.set_cons_zero, List.set_cons_succ, i64_w, i32_w]
                      rfl
                    refine take_ (i := 5) (N := some 136) (v := ?_) (a' := ?_) #[true, true, true, true, true, true, false, false, false, false, false, false, false, false, false, false, false, false, false, false, false, false, false, false, false, false, false, false, false, false, false, false, false, false, false, false, false, false, false] rfl rfl (by kernel_rfl) (fun _ _ _ h => h) (Or.inl ⟨by rfl, ?_⟩) hHeld ?_ ?_
                    rotate_left
                    · rintro w' ⟨⟨s0, s1, s2⟩, s3, s4, s5⟩
                      go_simp
                      first | with_reducible rfl | rfl
                    rotate_left
                    · simp only [Act.put, List.setIfInBounds_toArray, List.set_cons_zero, List.set_cons_succ, i64_w, i32_w]
                      rfl
                    refine pure_ (i := 6) (N := some 137) (v := ?_) (a' := ?_) #[true, true, true, true, true, true, true, false, false, false, false, false, false, false, false, false, false, false, false, false, false, false, false, false, false, false, false, false, false, false, false, false, false, false, false, false, false, false, false] rfl rfl (by kernel_rfl) (fun _ _ _ h => h) (Or.inl ⟨by rfl, ?_⟩) ?_ ?_
                    rotate_left
                    · intro w'
                      go_simp
                      first | with_reducible rfl | rfl
                    rotate_left
                    · simp only [Act.put, List.setIfInBounds_toArray, List.set_cons_zero, List.set_cons_succ, i64_w, i32_w]
                      rfl
                    refine pure_ (i := 7) (N := some 138) (v := ?_) (a' := ?_) #[true, true, true, true, true, true, true, true, false, false, false, false, false, false, false, false, false, false, false, false, false, false, false, false, false, false, false, false, false, false, false, false, false, false, false, false, false, false, false] rfl rfl (by kernel_rfl) (fun _ _ _ h => h) (Or.inl ⟨by rfl, ?_⟩) ?_ ?_
                    rotate_left
                    · intro w'
                      go_simp
                      first | with_reducible rfl | rfl
                    rotate_left
                    · simp only [Act.put, List.setIfInBounds_toArray, List.set_cons_zero, List.set_cons_succ, i64_w, i32_w]
                      rfl
                    refine pure_ (i := 8) (N := some 139) (v := ?_) (a' := ?_) #[true, true, true, true, true, true, true, true, true, false, false, false, false, false, false, false, false, false, false, false, false, false, false, false, false, false, false, false, false, false, false, false, false, false, false, false, false, false, false] rfl rfl (by kernel_rfl) (fun _ _ _ h => h) (Or.inl ⟨by rfl, ?_⟩) ?_ ?_
                    rotate_left
                    · intro w'
                      go_simp
                      first | with_reducible rfl | rfl
                    rotate_left
                    · simp only [Act.put, List.setIfInBounds_toArray, List.set_cons_zero, List.set_cons_succ, i64_w, i32_w]
                      rfl
                    refine pure_ (i := 9) (N := some 140) (v := ?_) (a' := ?_) #[true, true, true, true, true, true, true, true, true, true, false, false, false, false, false, false, false, false, false, false, false, false, false, false, false, false, false, false, false, false, false, false, false, false, false, false, false, false, false] rfl rfl (by kernel_rfl) (fun _ _ _ h => h) (Or.inl ⟨by rfl, ?_⟩) ?_ ?_
                    rotate_left
                    · intro w'
                      go_simp
                      first | with_reducible rfl | rfl
                    rotate_left
                    · simp only [Act.put, List.setIfInBounds_toArray, List.set_cons_zero, List.set_cons_succ, i64_w, i32_w]
                      rfl
                    refine take_ (i := 10) (N := some 141) (v := ?_) (a' := ?_) #[true, true, true, true, true, true, true, true, true, true, true, false, false, false, false, false, false, false, false, false, false, false, false, false, false, false, false, false, false, false, false, false, false, false, false, false, false, false, false] rfl rfl (by kernel_rfl) (fun _ _ _ h => h) (Or.inl ⟨by rfl, ?_⟩) hHeld ?_ ?_
                    rotate_left
                    · rintro w' ⟨⟨s0, s1, s2⟩, s3, s4, s5⟩
                      go_simp
                      first | with_reducible rfl | rfl
                    rotate_left
                    · simp only [Act.put, List.setIfInBounds_toArray, List.set_cons_zero, List.set_cons_succ, i64_w, i32_w]
                      rfl
                    refine pure_ (i := 11) (N := some 142) (v := (.bool true)) (a' := ?_) #[true, true, true, true, true, true, true, true, true, true, true, true, false, false, false, false, false, false, false, false, false, false, false, false, false, false, false, false, false, false, false, false, false, false, false, false, false, false, false] rfl rfl (by kernel_rfl) (fun _ _ _ h => h) (Or.inl ⟨by rfl, ?_⟩) ?_ ?_
                    · intro w'
                      go_simp
                      first | done | rw [tA]
                    rotate_left
                    · simp only [Act.put, List.setIfInBounds_toArray, List.set_cons_zero, List.set_cons_succ, i64_w, i32_w]
                      rfl
                    refine pure_ (i := 12) (N := some 143) (v := ?_) (a' := ?_) #[true, true, true, true, true, true, true, true, true, true, true, true, true, false, false, false, false, false, false, false, false, false, false, false, false, false, false, false, false, false, false, false, false, false, false, false, false, false, false] rfl rfl (by kernel_rfl) (fun _ _ _ h => h) (Or.inl ⟨by rfl, ?_⟩) ?_ ?_
                    rotate_left
                    · intro w'
                      go_simp
                      first | with_reducible rfl | rfl
                    rotate_left
                    · simp only [Act.put, List.setIfInBounds_toArray, List.set_cons_zero, List.set_cons_succ, i64_w, i32_w]
                      rfl
                    refine pure_ (i := 13) (N := some 144) (v := ?_) (a' := ?_) #[true, true, true, true, true, true, true, true, true, true, true, true, true, true, false, false, false, false, false, false, false, false, false, false, false, false, false, false, false, false, false, false, false, false, false, false, false, false, false] rfl rfl (by kernel_rfl) (fun _ _ _ h => h) (Or.inl ⟨by rfl, ?_⟩) ?_ ?_
                    rotate_left
                    · intro w'
                      go_simp
                      first | with_reducible rfl | rfl
                    rotate_left
                    · simp only [Act.put, List.setIfInBounds_toArray, List.set_cons_zero, List.set_cons_succ, i64_w, i32_w]
                      rfl
                    refine pure_ (i := 14) (N := some 145) (v := ?_) (a' := ?_) #[true, true, true, true, true, true, true, true, true, true, true, true, true, true, true, false, false, false, false, false, false, false, false, false, false, false, false, false, false, false, false, false, false, false, false, false, false, false, false] rfl rfl (by kernel_rfl) (fun _ _ _ h => h) (Or.inl ⟨by rfl, ?_⟩) ?_ ?_
                    rotate_left
                    · intro w'
                      go_simp
                      first | with_reducible rfl | rfl
                    rotate_left
                    · simp only [Act.put, List.setIfInBounds_toArray, List.set_cons_zero, List.set_cons_succ, i64_w, i32_w]
                      rfl
                    refine pure_ (i := 15) (N := some 146) (v := ?_) (a' := ?_) #[true, true, true, true, true, true, true, true, true, true, true, true, true, true, true, true, false, false, false, false, false, false, false, false, false, false, false, false, false, false, false, false, false, false, false, false, false, false, false] rfl rfl (by kernel_rfl) (fun _ _ _ h => h) (Or.inl ⟨by rfl, ?_⟩) ?_ ?_
                    rotate_left
                    · intro w'
                      go_simp
                      first | with_reducible rfl | rfl
                    rotate_left
                    · simp only [Act.put, List.setIfInBounds_toArray, List.set_cons_zero, List.set_cons_succ, i64_w, i32_w]
                      rfl
                    refine pure_ (i := 16) (N := some 147) (v := ?_) (a' := ?_) #[true, true, true, true, true, true, true, true, true, true, true, true, true, true, true, true, true, false, false, false, false, false, false, false, false, false, false, false, false, false, false, false, false, false, false, false, false, false, false] rfl rfl (by kernel_rfl) (fun _ _ _ h => h) (Or.inl ⟨by rfl, ?_⟩) ?_ ?_
                    rotate_left
                    · intro w'
                      go_simp
                      first | with_reducible rfl | rfl
                    rotate_left
                    · simp only [Act.put, List.setIfInBounds_toArray, List.set_cons_zero, List.set_cons_succ, i64_w, i32_w]
                      rfl
                    refine take_ (i := 17) (N := some 148) (v := ?_) (a' := ?_) #[true, true, true, true, true, true, true, true, true, true, true, true, true, true, true, true, true, true, false, false, false, false, false, false, false, false, false, false, false, false, false, false, false, false, false, false, false, false, false] rfl rfl (by kernel_rfl) (fun _ _ _ h => h) (Or.inl ⟨by rfl, ?_⟩) hHeld ?_ ?_
                    rotate_left
                    · rintro w' ⟨⟨s0, s1, s2⟩, s3, s4, s5⟩
                      go_simp
                      first | with_reducible rfl | rfl
                    rotate_left
                    · simp only [Act.put, List.setIfInBounds_toArray, List.set_cons_zero, List.set_cons_succ, i64_w, i32_w]
                      rfl
                    refine pure_ (i := 18) (N := some 149) (v := ?_) (a' := ?_) #[true, true, true, true, true, true, true, true, true, true, true, true, true, true, true, true, true, true, true, false, false, false, false, false, false, false, false, false, false, false, false, false, false, false, false, false, false, false, false] rfl rfl (by kernel_rfl) (fun _ _ _ h => h) (Or.inl ⟨by rfl, ?_⟩) ?_ ?_
                    rotate_left
                    · intro w'
                      go_simp
                      first | with_reducible rfl | rfl
                    rotate_left
                    · simp only [Act.put, List.setIfInBounds_toArray, List.set_cons_zero, List.set_cons_succ, i64_w, i32_w]
                      rfl
                    refine pure_ (i := 19) (N := some 150) (v := ?_) (a' := ?_) #[true, true, true, true, true, true, true, true, true, true, true, true, true, true, true, true, true, true, true, true, false, false, false, false, false, false, false, false, false, false, false, false, false, false, false, false, false, false, false] rfl rfl (by kernel_rfl) (fun _ _ _ h => h) (Or.inl ⟨by rfl, ?_⟩) ?_ ?_
                    rotate_left
                    · intro w'
                      go_simp
                      first | with_reducible rfl | rfl
                    rotate_left
                    · simp only [Act.put, List.setIfInBounds_toArray, List.set_cons_zero, List.set_cons_succ, i64_w, i32_w]
                      rfl
                    refine pure_ (i := 20) (N := some 151) (v := ?_) (a' := ?_) #[true, true, true, true, true, true, true, true, true, true, true, true, true, true, true, true, true, true, true, true, true, false, false, false, false, false, false, false, false, false, false, false, false, false, false, false, false, false, false] rfl rfl (by kernel_rfl) (fun _ _ _ h => h) (Or.inl ⟨by rfl, ?_⟩) ?_ ?_
                    rotate_left
                    · intro w'
                      go_simp
                      first | with_reducible rfl | rfl
                    rotate_left
                    · simp only [Act.put, List.setIfInBounds_toArray, List.set_cons_zero, List.set_cons_succ, i64_w, i32_w]
                      rfl
                    refine pure_ (i := 21) (N := some 152) (v := ?_) (a' := ?_) #[true, true, true, true, true, true, true, true, true, true, true, true, true, true, true, true, true, true, true, true, true, true, false, false, false, false, false, false, false, false, false, false, false, false, false, false, false, false, false] rfl rfl (by kernel_rfl) (fun _ _ _ h => h) (Or.inl ⟨by rfl, ?_⟩) ?_ ?_
                    rotate_left
                    · intro w'
                      go_simp
                      first | with_reducible rfl | rfl
                    rotate_left
                    · simp only [Act.put, List.setIfInBounds_toArray, List.set_cons_zero, List.set_cons_succ, i64_w, i32_w]
                      rfl
                    refine take_ (i := 22) (N := some 153) (v := ?_) (a' := ?_) #[true, true, true, true, true, true, true, true, true, true, true, true, true, true, true, true, true, true, true, true, true, true, true, false, false, false, false, false, false, false, false, false, false, false, false, false, false, false, false] rfl rfl (by kernel_rfl) (fun _ _ _ h => h) (Or.inl ⟨by rfl, ?_⟩) hHeld ?_ ?_
                    rotate_left
                    · rintro w' ⟨⟨s0, s1, s2⟩, s3, s4, s5⟩
                      go_simp
                      first | with_reducible rfl | rfl
                    rotate_left
                    · simp only [Act.put, List.setIfInBounds_toArray, List.set_cons_zero, List.set_cons_succ, i64_w, i32_w]
                      rfl
                    refine pure_ (i := 23) (N := some 154) (v := (.bool false)) (a' := ?_) #[true, true, true, true, true, true, true, true, true, true, true, true, true, true, true, true, true, true, true, true, true, true, true, true, false, false, false, false, false, false, false, false, false, false, false, false, false, false, false] rfl rfl (by kernel_rfl) (fun _ _ _ h => h) (Or.inl ⟨by rfl, ?_⟩) ?_ ?_
                    · intro w'
                      go_simp
                      first | done | rw [tB]
                    rotate_left
                    · simp only [Act.put, List.setIfInBounds_toArray, List.set_cons_zero, List.set_cons_succ, i64_w, i32_w]
                      rfl
                    refine pure_ (i := 24) (N := some 155) (v := ?_) (a' := ?_) #[true, true, true, true, true, true, true, true, true, true, true, true, true, true, true, true, true, true, true, true, true, true, true, true, true, false, false, false, false, false, false, false, false, false, false, false, false, false, false] rfl rfl (by kernel_rfl) (fun _ _ _ h => h) (Or.inl ⟨by rfl, ?_⟩) ?_ ?_
                    rotate_left
                    · intro w'
                      go_simp
                      first | with_reducible rfl | rfl
                    rotate_left
                    · simp only [Act.put, List.setIfInBounds_toArray, List.set_cons_zero, List.set_cons_succ, i64_w, i32_w]
                      rfl
                    refine pure_ (i := 25) (N := some 156) (v := ?_) (a' := ?_) #[true, true, true, true, true, true, true, true, true, true, true, true, true, true, true, true, true, true, true, true, true, true, true, true, true, true, false, false, false, false, false, false, false, false, false, false, false, false, false] rfl rfl (by kernel_rfl) (fun _ _ _ h => h) (Or.inl ⟨by rfl, ?_⟩) ?_ ?_
                    rotate_left
                    · intro w'
                      go_simp
                      first | with_reducible rfl | rfl
                    rotate_left
                    · simp only [Act.put, List.setIfInBounds_toArray, List.set_cons_zero, List.set_cons_succ, i64_w, i32_w]
                      rfl
                    refine pure_ (i := 26) (N := some 157) (v := undef) (a' := ?_) #[true, true, true, true, true, true, true, true, true, true, true, true, true, true, true, true, true, true, true, true, true, true, true, true, true, true, true, false, false, false, false, false, false, false, false, false, false, false, false] rfl rfl (by kernel_rfl) (fun _ _ _ h => h) (Or.inr ⟨by rfl, rfl⟩) ?_ ?_
                    rotate_left
                    · simp only [Act.put, List.setIfInBounds_toArray, List.set_cons_zero, List.set_cons_succ, i64_w, i32_w]
                      rfl
                    refine pure_ (i := 27) (N := some 158) (v := undef) (a' := ?_) #[true, true, true, true, true, true, true, true, true, true, true, true, true, true, true, true, true, true, true, true, true, true, true, true, true, true, true, true, false, false, false, false, false, false, false, false, false, false, false] rfl rfl (by kernel_rfl) (fun _ _ _ h => h) (Or.inr ⟨by rfl, rfl⟩) ?_ ?_
                    rotate_left
                    · simp only [Act.put, List.setIfInBounds_toArray, List.set_cons_zero, List.set_cons_succ, i64_w, i32_w]
                      rfl
                    refine pure_ (i := 28) (N := some 159) (v := undef) (a' := ?_) #[true, true, true, true, true, true, true, true, true, true, true, true, true, true, true, true, true, true, true, true, true, true, true, true, true, true, true, true, true, false, false, false, false, false, false, false, false, false, false] rfl rfl (by kernel_rfl) (fun _ _ _ h => h) (Or.inr ⟨by rfl, rfl⟩) ?_ ?_
                    rotate_left
                    · simp only [Act.put, List.setIfInBounds_toArray, List.set_cons_zero, List.set_cons_succ, i64_w, i32_w]
                      rfl
                    refine pure_ (i := 29) (N := some 160) (v := undef) (a' := ?_) #[true, true, true, true, true, true, true, true, true, true, true, true, true, true, true, true, true, true, true, true, true, true, true, true, true, true, true, true, true, true, false, false, false, false, false, false, false, false, false] rfl rfl (by kernel_rfl) (fun _ _ _ h => h) (Or.inr ⟨by rfl, rfl⟩) ?_ ?_
                    rotate_left
                    · simp only [Act.put, List.setIfInBounds_toArray, List.set_cons_zero, List.set_cons_succ, i64_w, i32_w]
                      rfl
                    refine pure_ (i := 30) (N := some 161) (v := undef) (a' := ?_) #[true, true, true, true, true, true, true, true, true, true, true, true, true, true, true, true, true, true, true, true, true, true, true, true, true, true, true, true, true, true, true, false, false, false, false, false, false, false, false] rfl rfl (by kernel_rfl) (fun _ _ _ h => h) (Or.inr ⟨by rfl, rfl⟩) ?_ ?_
                    rotate_left
                    · simp only [Act.put, List.setIfInBounds_toArray, List.set_cons_zero, List.set_cons_succ, i64_w, i32_w]
                      rfl
                    refine pure_ (i := 31) (N := some 162) (v := undef) (a' := ?_) #[true, true, true, true, true, true, true, true, true, true, true, true, true, true, true, true, true, true, true, true, true, true, true, true, true, true, true, true, true, true, true, true, false, false, false, false, false, false, false] rfl rfl (by kernel_rfl) (fun _ _ _ h => h) (Or.inr ⟨by rfl, rfl⟩) ?_ ?_
                    rotate_left
                    · simp only [Act.put, List.setIfInBounds_toArray, List.set_cons_zero, List.set_cons_succ, i64_w, i32_w]
                      rfl
                    refine pure_ (i := 32) (N := some 163) (v := undef) (a' := ?_) #[true, true, true, true, true, true, true, true, true, true, true, true, true, true, true, true, true, true, true, true, true, true, true, true, true, true, true, true, true, true, true, true, true, false, false, false, false, false, false] rfl rfl (by kernel_rfl) (fun _ _ _ h => h) (Or.inr ⟨by rfl, rfl⟩) ?_ ?_
                    rotate_left
                    · simp only [Act.put, List.setIfInBounds_toArray, List.set_cons_zero, List.set_cons_succ, i64_w, i32_w]
                      rfl
                    refine pure_ (i := 33) (N := some 164) (v := undef) (a' := ?_) #[true, true, true, true, true, true, true, true, true, true, true, true, true, true, true, true, true, true, true, true, true, true, true, true, true, true, true, true, true, true, true, true, true, true, false, false, false, false, false] rfl rfl (by kernel_rfl) (fun _ _ _ h => h) (Or.inr ⟨by rfl, rfl⟩) ?_ ?_
                    rotate_left
                    · simp only [Act.put, List.setIfInBounds_toArray, List.set_cons_zero, List.set_cons_succ, i64_w, i32_w]
                      rfl
                    refine pure_ (i := 34) (N := some 165) (v := undef) (a' := ?_) #[true, true, true, true, true, true, true, true, true, true, true, true, true, true, true, true, true, true, true, true, true, true, true, true, true, true, true, true, true, true, true, true, true, true, true, false, false, false, false] rfl rfl (by kernel_rfl) (fun _ _ _ h => h) (Or.inr ⟨by rfl, rfl⟩) ?_ ?_
                    rotate_left
                    · simp only [Act.put, List.setIfInBounds_toArray, List.set_cons_zero, List.set_cons_succ, i64_w, i32_w]
                      rfl
                    refine pure_ (i := 35) (N := some 166) (v := undef) (a' := ?_) #[true, true, true, true, true, true, true, true, true, true, true, true, true, true, true, true, true, true, true, true, true, true, true, true, true, true, true, true, true, true, true, true, true, true, true, true, false, false, false] rfl rfl (by kernel_rfl) (fun _ _ _ h => h) (Or.inr ⟨by rfl, rfl⟩) ?_ ?_
                    rotate_left
                    · simp only [Act.put, List.setIfInBounds_toArray, List.set_cons_zero, List.set_cons_succ, i64_w, i32_w]
                      rfl
                    refine pure_ (i := 36) (N := some 167) (v := ?_) (a' := ?_) #[true, true, true, true, true, true, true, true, true, true, true, true, true, true, true, true, true, true, true, true, true, true, true, true, true, true, true, true, true, true, true, true, true, true, true, true, true, false, false] rfl rfl (by kernel_rfl) (fun _ _ _ h => h) (Or.inl ⟨by rfl, ?_⟩) ?_ ?_
                    rotate_left
                    · intro w'
                      go_simp
                      first | with_reducible rfl | rfl
                    rotate_left
                    · simp only [Act.put, List.setIfInBounds_toArray, List.set_cons_zero, List.set_cons_succ, i64_w, i32_w]
                      rfl
                    refine pure_ (i := 37) (N := some 168) (v := ?_) (a' := ?_) #[true, true, true, true, true, true, true, true, true, true, true, true, true, true, true, true, true, true, true, true, true, true, true, true, true, true, true, true, true, true, true, true, true, true, true, true, true, true, false] rfl rfl (by kernel_rfl) (fun _ _ _ h => h) (Or.inl ⟨by rfl, ?_⟩) ?_ ?_
                    rotate_left
                    · intro w'
                      go_simp
                      first | with_reducible rfl | rfl
                    rotate_left
                    · simp only [Act.put, List.setIfInBounds_toArray, List.set_cons_zero, List.set_cons_succ, i64_w, i32_w]
                      rfl
                    refine pure_ (i := 38) (N := some 22) (v := ?_) (a' := ?_) #[true, true, true, true, true, true, true, true, true, true, true, true, true, true, true, true, true, true, true, true, true, true, true, true, true, true, true, true, true, true, true, true, true, true, true, true, true, true, true] rfl rfl (by kernel_rfl) (fun _ _ _ h => h) (Or.inl ⟨by rfl, ?_⟩) ?_ ?_
                    rotate_left
                    · intro w'
                      go_simp
                      first | with_reducible rfl | rfl
                    rotate_left
                    · simp only [Act.put, List.setIfInBounds_toArray, List.set_cons_zero, List.set_cons_succ, i64_w, i32_w]
                      rfl
                    refine done_ (by kernel_rfl) ?_
                    go_wp2_with fail
                    go_roundw
                    case rel => exact ⟨q + 1, false, hqn3.out, by (rw [hq3.out]; try go_num), rfl, fun h => (Nat.lt_succ_iff_lt_or_eq.1 h).elim hb.out (fun h => absurd (hyx.out h.symm) hne.out), H6.out.step (Below.refl _ _).drew⟩
                    case measure => have := hr7.out; clear tk1 tk2 tr0 tr1 tr2 hw1 hw2; simp [intOf]; omega
                · have hne : ¬ y = x := fun h => hA (by rw [h])
                  have tA : (y.t == x.t) = false := beq_eq_false_iff_ne.mpr hA
                  replace hA := Lib.hid hA
                  replace hne := Lib.hid hne
                  go_wp2_with fail
                  refine start_ (n := 39) (S := fun w' => (w'.cell? ⟨b3, r, none⟩ = some (.int .i64 y.t) ∧ w'.cell? ⟨b3, r1, none⟩ = some (.int .i64 y.n) ∧ w'.cell? ⟨b3, r2, none⟩ = some (.int .i64 y.a)) ∧ w'.cell? ⟨b1, i * 2, none⟩ = some (.int .i64 x.t) ∧ w'.cell? ⟨b1, i * 2 + 1, none⟩ = some (.int .i64 x.n) ∧ w'.cell? ⟨b2, i, none⟩ = some (.int .i64 x.a)) (ds := []) #[false, false, false, false, false, false, false, false, false, false, false, false, false, false, false, false, false, false, false, false, false, false, false, false, false, false, false, false, false, false, false, false, false, false, false, false, false, false, false] (by kernel_rfl) rfl rfl ⟨⟨y0, y1, y2⟩, x0, x1, x2⟩ (fun hHeld => ?_)
                  refine pure_ (i := 0) (N := some 131) (v := ?_) (a' := ?_) #[true, false, false, false, false, false, false, false, false, false, false, false, false, false, false, false, false, false, false, false, false, false, false, false, false, false, false, false, false, false, false, false, false, false, false, false, false, false, false] rfl rfl (by kernel_rfl) (fun _ _ _ h => h) (Or.inl ⟨by rfl, ?_⟩) ?_ ?_
                  rotate_left
                  · intro w'
                    go_simp
                    first | with_reducible rfl | rfl
                  rotate_left
                  · simp only [Act.put, List.setIfInBounds_toArray, List.set_cons_zero, List.set_cons_succ, i64_w, i32_w]
                    rfl
                  refine pure_ (i := 1) (N := some 132) (v := ?_) (a' := ?_) #[true, true, false, false, false, false, false, false, false, false, false, false, false, false, false, false, false, false, false, false, false, false, false, false, false, false, false, false, false, false, false, false, false, false, false, false, false, false, false] rfl rfl (by kernel_rfl) (fun _ _ _ h => h) (Or.inl ⟨by rfl, ?_⟩) ?_ ?_
                  rotate_left
                  · intro w'
                    go_simp
                    first | with_reducible rfl | rfl
                  rotate_left
                  · simp only [Act.put, List.setIfInBounds_toArray, List.set_cons_zero, List.set_cons_succ, i64_w, i32_w]
                    rfl
                  refine pure_ (i := 2) (N := some 133) (v := ?_) (a' := ?_) #[true, true, true, false, false, false, false, false, false, false, false, false, false, false, false, false, false, false, false, false, false, false, false, false, false, false, false, false, false, false, false, false, false, false, false, false, false, false, false] rfl rfl (by kernel_rfl) (fun _ _ _ h => h) (Or.inl ⟨by rfl, ?_⟩) ?_ ?_
                  rotate_left
                  · intro w'
                    go_simp
                    first | with_reducible rfl | rfl
                  rotate_left
                  · simp only [Act.put, List.setIfInBounds_toArray, List.set_cons_zero, List.set_cons_succ, i64_w, i32_w]
                    rfl
                  refine pure_ (i := 3) (N := some 134) (v := ?_) (a' := ?_) #[true, true, true, true, false, false, false, false, false, false, false, false, false, false, false, false, false, false, false, false, false, false, false, false, false, false, false, false, false, false, false, false, false, false, false, false, false, false, false] rfl rfl (by kernel_rfl) (fun _ _ _ h => h) (Or.inl ⟨by rfl, ?_⟩) ?_ ?_
                  rotate_left
                  · intro w'
                    go_simp
                    first | with_reducible rfl | rfl
                  rotate_left
                  · simp only [Act.put, List.setIfInBounds_toArray, List.set_cons_zero, List.set_cons_succ, i64_w, i32_w]
                    rfl
                  refine pure_ (i := 4) (N := some 135) (v := ?_) (a' := ?_) #[true, true, true, true, true, false, false, false, false, false, false, false, false, false, false, false, false, false, false, false, false, false, false, false, false, false, false, false, false, false, false, false, false, false, false, false, false, false, false] rfl rfl (by kernel_rfl) (fun _ _ _ h => h) (Or.inl ⟨by rfl, ?_⟩) ?_ ?_
                  rotate_left
                  · intro w'
                    go_simp
                    first | with_reducible rfl | rfl
                  rotate_left
                  · simp only [Act.put, List.setIfInBounds_toArray, List.set_cons_zero, List.set_cons_succ, i64_w, i32_w]
                    rfl
                  refine take_ (i := 5) (N := some 136) (v := ?_) (a' := ?_) #[true, true, true, true, true, true, false, false, false, false, false, false, false, false, false, false, false, false, false, false, false, false, false, false, false, false, false, false, false, false, false, false, false, false, false, false, false, false, false] rfl rfl (by kernel_rfl) (fun _ _ _ h => h) (Or.inl ⟨by rfl, ?_⟩) hHeld ?_ ?_
                  rotate_left
                  · rintro w' ⟨⟨s0, s1, s2⟩, s3, s4, s5⟩
                    go_simp
                    first | with_reducible rfl | rfl
                  rotate_left
                  · simp only [Act.put, List.setIfInBounds_toArray, List.set_cons_zero, List.set_cons_succ, i64_w, i32_w]
                    rfl
                  refine pure_ (i := 6) (N := some 137) (v := ?_) (a' := ?_) #[true, true, true, true, true, true, true, false, false, false, false, false, false, false, false, false, false, false, false, false, false, false, false, false, false, false, false, false, false, false, false, false, false, false, false, false, false, false, false] rfl rfl (by kernel_rfl) (fun _ _ _ h => h) (Or.inl ⟨by rfl, ?_⟩) ?_ ?_
                  rotate_left
                  · intro w'
                    go_simp
                    first | with_reducible rfl | rfl
                  rotate_left
                  · simp only [Act.put, List.setIfInBounds_toArray, List.set_cons_zero, List.set_cons_succ, i64_w, i32_w]
                    rfl
                  refine pure_ (i := 7) (N := some 138) (v := ?_) (a' := ?_) #[true, true, true, true, true, true, true, true, false, false, false, false, false, false, false, false, false, false, false, false, false, false, false, false, false, false, false, false, false, false, false, false, false, false, false, false, false, false, false] rfl rfl (by kernel_rfl) (fun _ _ _ h => h) (Or.inl ⟨by rfl, ?_⟩) ?_ ?_
                  rotate_left
                  · intro w'
                    go_simp
                    first | with_reducible rfl | rfl
                  rotate_left
                  · simp only [Act.put, List.setIfInBounds_toArray, List.set_cons_zero, List.set_cons_succ, i64_w, i32_w]
                    rfl
                  refine pure_ (i := 8) (N := some 139) (v := ?_) (a' := ?_) #[true, true, true, true, true, true, true, true, true, false, false, false, false, false, false, false, false, false, false, false, false, false, false, false, false, false, false, false, false, false, false, false, false, false, false, false, false, false, false] rfl rfl (by kernel_rfl) (fun _ _ _ h => h) (Or.inl ⟨by rfl, ?_⟩) ?_ ?_
                  rotate_left
                  · intro w'
                    go_simp
                    first | with_reducible rfl | rfl
                  rotate_left
                  · simp only [Act.put, List.setIfInBounds_toArray, List.set_cons_zero, List.set_cons_succ, i64_w, i32_w]
                    rfl
                  refine pure_ (i := 9) (N := some 140) (v := ?_) (a' := ?_) #[true, true, true, true, true, true, true, true, true, true, false, false, false, false, false, false, false, false, false, false, false, false, false, false, false, false, false, false, false, false, false, false, false, false, false, false, false, false, false] rfl rfl (by kernel_rfl) (fun _ _ _ h => h) (Or.inl ⟨by rfl, ?_⟩) ?_ ?_
                  rotate_left
                  · intro w'
                    go_simp
                    first | with_reducible rfl | rfl
                  rotate_left
                  · simp only [Act.put, List.setIfInBounds_toArray, List.set_cons_zero, List.set_cons_succ, i64_w, i32_w]
                    rfl
                  refine take_ (i := 10) (N := some 141) (v := ?_) (a' := ?_) #[true, true, true, true, true, true, true, true, true, true, true, false, false, false, false, false, false, false, false, false, false, false, false, false, false, false, false, false, false, false, false, false, false, false, false, false, false, false, false] rfl rfl (by kernel_rfl) (fun _ _ _ h => h) (Or.inl ⟨by rfl, ?_⟩) hHeld ?_ ?_
                  rotate_left
                  · rintro w' ⟨⟨s0, s1, s2⟩, s3, s4, s5⟩
                    go_simp
                    first | with_reducible rfl | rfl
                  rotate_left
                  · simp only [Act.put, List.setIfInBounds_toArray, List.set_cons_zero, List.set_cons_succ, i64_w, i32_w]
                    rfl
                  refine pure_ (i := 11) (N := some 142) (v := (.bool false)) (a' := ?_) #[true, true, true, true, true, true, true, true, true, true, true, true, false, false, false, false, false, false, false, false, false, false, false, false, false, false, false, false, false, false, false, false, false, false, false, false, false, false, false] rfl rfl (by kernel_rfl) (fun _ _ _ h => h) (Or.inl ⟨by rfl, ?_⟩) ?_ ?_
                  · intro w'
                    go_simp
                    first | done | rw [tA]
                  rotate_left
                  · simp only [Act.put, List.setIfInBounds_toArray, List.set_cons_zero, List.set_cons_succ, i64_w, i32_w]
                    rfl
                  refine pure_ (i := 12) (N := some 143) (v := ?_) (a' := ?_) #[true, true, true, true, true, true, true, true, true, true, true, true, true, false, false, false, false, false, false, false, false, false, false, false, false, false, false, false, false, false, false, false, false, false, false, false, false, false, false] rfl rfl (by kernel_rfl) (fun _ _ _ h => h) (Or.inl ⟨by rfl, ?_⟩) ?_ ?_
                  rotate_left
                  · intro w'
                    go_simp
                    first | with_reducible rfl | rfl
                  rotate_left
                  · simp only [Act.put, List.setIfInBounds_toArray, List.set_cons_zero, List.set_cons_succ, i64_w, i32_w]
                    rfl
                  refine pure_ (i := 13) (N := some 144) (v := undef) (a' := ?_) #[true, true, true, true, true, true, true, true, true, true, true, true, true, true, false, false, false, false, false, false, false, false, false, false, false, false, false, false, false, false, false, false, false, false, false, false, false, false, false] rfl rfl (by kernel_rfl) (fun _ _ _ h => h) (Or.inr ⟨by rfl, rfl⟩) ?_ ?_
                  rotate_left
                  · simp only [Act.put, List.setIfInBounds_toArray, List.set_cons_zero, List.set_cons_succ, i64_w, i32_w]
                    rfl
                  refine pure_ (i := 14) (N := some 145) (v := undef) (a' := ?_) #[true, true, true, true, true, true, true, true, true, true, true, true, true, true, true, false, false, false, false, false, false, false, false, false, false, false, false, false, false, false, false, false, false, false, false, false, false, false, false] rfl rfl (by kernel_rfl) (fun _ _ _ h => h) (Or.inr ⟨by rfl, rfl⟩) ?_ ?_
                  rotate_left
                  · simp only [Act.put, List.setIfInBounds_toArray, List.set_cons_zero, List.set_cons_succ, i64_w, i32_w]
                    rfl
                  refine pure_ (i := 15) (N := some 146) (v := undef) (a' := ?_) #[true, true, true, true, true, true, true, true, true, true, true, true, true, true, true, true, false, false, false, false, false, false, false, false, false, false, false, false, false, false, false, false, false, false, false, false, false, false, false] rfl rfl (by kernel_rfl) (fun _ _ _ h => h) (Or.inr ⟨by rfl, rfl⟩) ?_ ?_
                  rotate_left
                  · simp only [Act.put, List.setIfInBounds_toArray, List.set_cons_zero, List.set_cons_succ, i64_w, i32_w]
                    rfl
                  refine pure_ (i := 16) (N := some 147) (v := undef) (a' := ?_) #[true, true, true, true, true, true, true, true, true, true, true, true, true, true, true, true, true, false, false, false, false, false, false, false, false, false, false, false, false, false, false, false, false, false, false, false, false, false, false] rfl rfl (by kernel_rfl) (fun _ _ _ h => h) (Or.inr ⟨by rfl, rfl⟩) ?_ ?_
                  rotate_left
                  · simp only [Act.put, List.setIfInBounds_toArray, List.set_cons_zero, List.set_cons_succ, i64_w, i32_w]
                    rfl
                  refine pure_ (i := 17) (N := some 148) (v := undef) (a' := ?_) #[true, true, true, true, true, true, true, true, true, true, true, true, true, true, true, true, true, true, false, false, false, false, false, false, false, false, false, false, false, false, false, false, false, false, false, false, false, false, false] rfl rfl (by kernel_rfl) (fun _ _ _ h => h) (Or.inr ⟨by rfl, rfl⟩) ?_ ?_
                  rotate_left
                  · simp only [Act.put, List.setIfInBounds_toArray, List.set_cons_zero, List.set_cons_succ, i64_w, i32_w]
                    rfl
                  refine pure_ (i := 18) (N := some 149) (v := undef) (a' := ?_) #[true, true, true, true, true, true, true, true, true, true, true, true, true, true, true, true, true, true, true, false, false, false, false, false, false, false, false, false, false, false, false, false, false, false, false, false, false, false, false] rfl rfl (by kernel_rfl) (fun _ _ _ h => h) (Or.inr ⟨by rfl, rfl⟩) ?_ ?_
                  rotate_left
                  · simp only [Act.put, List.setIfInBounds_toArray, List.set_cons_zero, List.set_cons_succ, i64_w, i32_w]
                    rfl
                  refine pure_ (i := 19) (N := some 150) (v := undef) (a' := ?_) #[true, true, true, true, true, true, true, true, true, true, true, true, true, true, true, true, true, true, true, true, false, false, false, false, false, false, false, false, false, false, false, false, false, false, false, false, false, false, false] rfl rfl (by kernel_rfl) (fun _ _ _ h => h) (Or.inr ⟨by rfl, rfl⟩) ?_ ?_
                  rotate_left
                  · simp only [Act.put, List.setIfInBounds_toArray, List.set_cons_zero, List.set_cons_succ, i64_w, i32_w]
                    rfl
                  refine pure_ (i := 20) (N := some 151) (v := undef) (a' := ?_) #[true, true, true, true, true, true, true, true, true, true, true, true, true, true, true, true, true, true, true, true, true, false, false, false, false, false, false, false, false, false, false, false, false, false, false, false, false, false, false] rfl rfl (by kernel_rfl) (fun _ _ _ h => h) (Or.inr ⟨by rfl, rfl⟩) ?_ ?_
                  rotate_left
                  · simp only [Act.put, List.setIfInBounds_toArray, List.set_cons_zero, List.set_cons_succ, i64_w, i32_w]
                    rfl
                  refine pure_ (i := 21) (N := some 152) (v := undef) (a' := ?_) #[true, true, true, true, true, true, true, true, true, true, true, true, true, true, true, true, true, true, true, true, true, true, false, false, false, false, false, false, false, false, false, false, false, false, false, false, false, false, false] rfl rfl (by kernel_rfl) (fun _ _ _ h => h) (Or.inr ⟨by rfl, rfl⟩) ?_ ?_
                  rotate_left
                  · simp only [Act.put, List.setIfInBounds_toArray, List.set_cons_zero, List.set_cons_succ, i64_w, i32_w]
                    rfl
                  refine pure_ (i := 22) (N := some 153) (v := undef) (a' := ?_) #[true, true, true, true, true, true, true, true, true, true, true, true, true, true, true, true, true, true, true, true, true, true, true, false, false, false, false, false, false, false, false, false, false, false, false, false, false, false, false] rfl rfl (by kernel_rfl) (fun _ _ _ h => h) (Or.inr ⟨by rfl, rfl⟩) ?_ ?_
                  rotate_left
                  · simp only [Act.put, List.setIfInBounds_toArray, List.set_cons_zero, List.set_cons_succ, i64_w, i32_w]
                    rfl
                  refine pure_ (i := 23) (N := some 154) (v := undef) (a' := ?_) #[true, true, true, true, true, true, true, true, true, true, true, true, true, true, true, true, true, true, true, true, true, true, true, true, false, false, false, false, false, false, false, false, false, false, false, false, false, false, false] rfl rfl (by kernel_rfl) (fun _ _ _ h => h) (Or.inr ⟨by rfl, rfl⟩) ?_ ?_
                  rotate_left
                  · simp only [Act.put, List.setIfInBounds_toArray, List.set_cons_zero, List.set_cons_succ, i64_w, i32_w]
                    rfl
                  refine pure_ (i := 24) (N := some 155) (v := ?_) (a' := ?_) #[true, true, true, true, true, true, true, true, true, true, true, true, true, true, true, true, true, true, true, true, true, true, true, true, true, false, false, false, false, false, false, false, false, false, false, false, false, false, false] rfl rfl (by kernel_rfl) (fun _ _ _ h => h) (Or.inl ⟨by rfl, ?_⟩) ?_ ?_
                  rotate_left
                  · intro w'
                    go_simp
                    first | with_reducible rfl | rfl
                  rotate_left
                  · simp only [Act.put, List.setIfInBounds_toArray, List.set_cons_zero, List.set_cons_succ, i64_w, i32_w]
                    rfl
                  refine pure_ (i := 25) (N := some 156) (v := ?_) (a' := ?_) #[true, true, true, true, true, true, true, true, true, true, true, true, true, true, true, true, true, true, true, true, true, true, true, true, true, true, false, false, false, false, false, false, false, false, false, false, false, false, false] rfl rfl (by kernel_rfl) (fun _ _ _ h => h) (Or.inl ⟨by rfl, ?_⟩) ?_ ?_
                  rotate_left
                  · intro w'
                    go_simp
                    first | with_reducible rfl | rfl
                  rotate_left
                  · simp only [Act.put, List.setIfInBounds_toArray, List.set_cons_zero, List.set_cons_succ, i64_w, i32_w]
                    rfl
                  refine pure_ (i := 26) (N := some 157) (v := undef) (a' := ?_) #[true, true, true, true, true, true, true, true, true, true, true, true, true, true, true, true, true, true, true, true, true, true, true, true, true, true, true, false, false, false, false, false, false, false, false, false, false, false, false] rfl rfl (by kernel_rfl) (fun _ _ _ h => h) (Or.inr ⟨by rfl, rfl⟩) ?_ ?_
                  rotate_left
                  · simp only [Act.put, List.setIfInBounds_toArray, List.set_cons_zero, List.set_cons_succ, i64_w, i32_w]
                    rfl
                  refine pure_ (i := 27) (N := some 158) (v := undef) (a' := ?_) #[true, true, true, true, true, true, true, true, true, true, true, true, true, true, true, true, true, true, true, true, true, true, true, true, true, true, true, true, false, false, false, false, false, false, false, false, false, false, false] rfl rfl (by kernel_rfl) (fun _ _ _ h => h) (Or.inr ⟨by rfl, rfl⟩) ?_ ?_
                  rotate_left
                  · simp only [Act.put, List.setIfInBounds_toArray, List.set_cons_zero, List.set_cons_succ, i64_w, i32_w]
                    rfl
                  refine pure_ (i := 28) (N := some 159) (v := undef) (a' := ?_) #[true, true, true, true, true, true, true, true, true, true, true, true, true, true, true, true, true, true, true, true, true, true, true, true, true, true, true, true, true, false, false, false, false, false, false, false, false, false, false] rfl rfl (by kernel_rfl) (fun _ _ _ h => h) (Or.inr ⟨by rfl, rfl⟩) ?_ ?_
                  rotate_left
                  · simp only [Act.put, List.setIfInBounds_toArray, List.set_cons_zero, List.set_cons_succ, i64_w, i32_w]
                    rfl
                  refine pure_ (i := 29) (N := some 160) (v := undef) (a' := ?_) #[true, true, true, true, true, true, true, true, true, true, true, true, true, true, true, true, true, true, true, true, true, true, true, true, true, true, true, true, true, true, false, false, false, false, false, false, false, false, false] rfl rfl (by kernel_rfl) (fun _ _ _ h => h) (Or.inr ⟨by rfl, rfl⟩) ?_ ?_
                  rotate_left
                  · simp only [Act.put, List.setIfInBounds_toArray, List.set_cons_zero, List.set_cons_succ, i64_w, i32_w]
                    rfl
                  refine pure_ (i := 30) (N := some 161) (v := undef) (a' := ?_) #[true, true, true, true, true, true, true, true, true, true, true, true, true, true, true, true, true, true, true, true, true, true, true, true, true, true, true, true, true, true, true, false, false, false, false, false, false, false, false] rfl rfl (by kernel_rfl) (fun _ _ _ h => h) (Or.inr ⟨by rfl, rfl⟩) ?_ ?_
                  rotate_left
                  · simp only [Act.put, List.setIfInBounds_toArray, List.set_cons_zero, List.set_cons_succ, i64_w, i32_w]
                    rfl
                  refine pure_ (i := 31) (N := some 162) (v := undef) (a' := ?_) #[true, true, true, true, true, true, true, true, true, true, true, true, true, true, true, true, true, true, true, true, true, true, true, true, true, true, true, true, true, true, true, true, false, false, false, false, false, false, false] rfl rfl (by kernel_rfl) (fun _ _ _ h => h) (Or.inr ⟨by rfl, rfl⟩) ?_ ?_
                  rotate_left
                  · simp only [Act.put, List.setIfInBounds_toArray, List.set_cons_zero, List.set_cons_succ, i64_w, i32_w]
                    rfl
                  refine pure_ (i := 32) (N := some 163) (v := undef) (a' := ?_) #[true, true, true, true, true, true, true, true, true, true, true, true, true, true, true, true, true, true, true, true, true, true, true, true, true, true, true, true, true, true, true, true, true, false, false, false, false, false, false] rfl rfl (by kernel_rfl) (fun _ _ _ h => h) (Or.inr ⟨by rfl, rfl⟩) ?_ ?_
                  rotate_left
                  · simp only [Act.put, List.setIfInBounds_toArray, List.set_cons_zero, List.set_cons_succ, i64_w, i32_w]
                    rfl
                  refine pure_ (i := 33) (N := some 164) (v := undef) (a' := ?_) #[true, true, true, true, true, true, true, true, true, true, true, true, true, true, true, true, true, true, true, true, true, true, true, true, true, true, true, true, true, true, true, true, true, true, false, false, false, false, false] rfl rfl (by kernel_rfl) (fun _ _ _ h => h) (Or.inr ⟨by rfl, rfl⟩) ?_ ?_
                  rotate_left
                  · simp only [Act.put, List.setIfInBounds_toArray, List.set_cons_zero, List.set_cons_succ, i64_w, i32_w]
                    rfl
                  refine pure_ (i := 34) (N := some 165) (v := undef) (a' := ?_) #[true, true, true, true, true, true, true, true, true, true, true, true, true, true, true, true, true, true, true, true, true, true, true, true, true, true, true, true, true, true, true, true, true, true, true, false, false, false, false] rfl rfl (by kernel_rfl) (fun _ _ _ h => h) (Or.inr ⟨by rfl, rfl⟩) ?_ ?_
                  rotate_left
                  · simp only [Act.put, List.setIfInBounds_toArray, List.set_cons_zero, List.set_cons_succ, i64_w, i32_w]
                    rfl
                  refine pure_ (i := 35) (N := some 166) (v := undef) (a' := ?_) #[true, true, true, true, true, true, true, true, true, true, true, true, true, true, true, true, true, true, true, true, true, true, true, true, true, true, true, true, true, true, true, true, true, true, true, true, false, false, false] rfl rfl (by kernel_rfl) (fun _ _ _ h => h) (Or.inr ⟨by rfl, rfl⟩) ?_ ?_
                  rotate_left
                  · simp only [Act.put, List.setIfInBounds_toArray, List.set_cons_zero, List.set_cons_succ, i64_w, i32_w]
                    rfl
                  refine pure_ (i := 36) (N := some 167) (v := ?_) (a' := ?_) #[true, true, true, true, true, true, true, true, true, true, true, true, true, true, true, true, true, true, true, true, true, true, true, true, true, true, true, true, true, true, true, true, true, true, true, true, true, false, false] rfl rfl (by kernel_rfl) (fun _ _ _ h => h) (Or.inl ⟨by rfl, ?_⟩) ?_ ?_
                  rotate_left
                  · intro w'
                    go_simp
                    first | with_reducible rfl | rfl
                  rotate_left
                  · simp only [Act.put, List.setIfInBounds_toArray, List.set_cons_zero, List.set_cons_succ, i64_w, i32_w]
                    rfl
                  refine pure_ (i := 37) (N := some 168) (v := ?_) (a' := ?_) #[true, true, true, true, true, true, true, true, true, true, true, true, true, true, true, true, true, true, true, true, true, true, true, true, true, true, true, true, true, true, true, true, true, true, true, true, true, true, false] rfl rfl (by kernel_rfl) (fun _ _ _ h => h) (Or.inl ⟨by rfl, ?_⟩) ?_ ?_
                  rotate_left
                  · intro w'
                    go_simp
                    first | with_reducible rfl | rfl
                  rotate_left
                  · simp only [Act.put, List.setIfInBounds_toArray, List.set_cons_zero, List.set_cons_succ, i64_w, i32_w]
                    rfl
                  refine pure_ (i := 38) (N := some 22) (v := ?_) (a' := ?_) #[true, true, true, true, true, true, true, true, true, true, true, true, true, true, true, true, true, true, true, true, true, true, true, true, true, true, true, true, true, true, true, true, true, true, true, true, true, true, true] rfl rfl (by kernel_rfl) (fun _ _ _ h => h) (Or.inl ⟨by rfl, ?_⟩) ?_ ?_
                  rotate_left
                  · intro w'
                    go_simp
                    first | with_reducible rfl | rfl
                  rotate_left
                  · simp only [Act.put, List.setIfInBounds_toArray, List.set_cons_zero, List.set_cons_succ, i64_w, i32_w]
                    rfl
                  refine done_ (by kernel_rfl) ?_
                  go_wp2_with fail
                  go_roundw
                  case rel => exact ⟨q + 1, false, hqn3.out, by (rw [hq3.out]; try go_num), rfl, fun h => (Nat.lt_succ_iff_lt_or_eq.1 h).elim hb.out (fun h => absurd (hyx.out h.symm) hne.out), H6.out.step (Below.refl _ _).drew⟩
                  case measure => have := hr7.out; clear tk1 tk2 tr0 tr1 tr2 hw1 hw2; simp [intOf]; omega
            · have hqe : q = Wl.length := by omega
              have hbt : b = true := hb (by have := hm0.out; omega)
              subst hbt
              have e1 : ¬ (((3 * q : Nat) : Int) < (F.length : Int)) := by rw [hFl.out, hqe]; omega
              generalize 3 * q = r at *
              clear hb hq hqn hqe
              go_wp2_with fail
              have hi6 := hin3.out
              clear tk1 tk2 hEi
              exact ⟨⟨i + 1, hi6, by go_num, H6.out⟩, by simp [intOf]; omega⟩
        · have e0 : ¬ ((i : Int) < (D.length : Int)) := fun h => hin (Int.ofNat_lt.1 h)
          clear hi hin
          go_wp2_with fail
          go_loopw [24] (fun vi wr => LookRel w [dueA (.slice A4 dw.length c4) dw, intA (.slice Aw F.length cw) F, dueA (.slice At D.length ct) D, intA (.slice Aa E.length ca) E, tmO g pb pc ps s ws, paO pb pc ps] dw.length vi wr) (fun vi _ => dw.length - (intOf vi).toNat)
          case atStart => exact ⟨0, Nat.zero_le _, rfl, H5.out⟩
          case round =>
            obtain ⟨j, hj, rfl, H6⟩ := hrel
            replace H6 := Lib.hid H6
            clear H5
            by_cases hjn : j < dw.length
            · have hjn' : (j : Int) < (dw.length : Int) := Int.ofNat_lt.2 hjn
              obtain ⟨b, rfl, x0, x1⟩ := due_cells (A := A4) (c := c4) H6.out (by simp) j _ (get_z dw j hjn)
              obtain ⟨q1, q2, q3⟩ := late_ok hgd.out hdw.out hjn
              generalize dw.getD j z48 = z at *
              have tk1 : decide (dw.length ≤ j) = false := decide_eq_false (Nat.not_le.2 hjn)
              have hj5 : j < 3000 := by omega
              have hjn3 := Lib.hid hjn
              have t1 : decide ((s : Int) ≤ z.f1) = false := decide_eq_false (by omega)
              have t2 : decide (z.f0 < 0) = false := decide_eq_false (by omega)
              have t3 : decide ((ps.length : Int) ≤ z.f0) = false := decide_eq_false (by omega)
              clear hj hjn
              go_wp2_with fail
              have hj6 := hjn3.out
              clear t1 t2 t3 tk1
              exact ⟨⟨j + 1, hj6, by go_num, H6.out⟩, by simp [intOf]; omega⟩
            · have e1 : ¬ ((j : Int) < (dw.length : Int)) := fun h => hjn (Int.ofNat_lt.1 h)
              clear hj hjn
              go_wp2_with fail
              refine (nowH (g := g) (pv := .slice (some ⟨pb, 0, none⟩) ps.length pc) (now := s) (ws := ws) H6.out (by simp)).mono ?_
              rintro e w5 ⟨rfl, rfl⟩
              go_wp2_with fail
              refine (known_walk _).mono ?_
              rintro e wk ⟨rfl, hbk⟩
              have HZ := Lib.hid (H6.out.below.trans (hbk.mono H6.out.size))
              clear hbk
              go_wp2_with fail
              go_ret
              exact ⟨rfl, HZ.out⟩
set_option maxRecDepth 100000 in
set_option maxHeartbeats 4000000 in
theorem once_no (A : Option Addr) (c : Nat) (ps : List Int) (A' : Option Addr) (m c' : Nat) (v : Int) (w : World) (hq : PkAt w A c ps) (hok : ¬ PsOk ps) : Calls Try.prog 4 #[.slice A ps.length c, .slice A' m c', .int .u8 v] w fun e w' => e = .returned (.bool true) ∧ Below w.heap.size w w' := by
  have H0 := Lib.hid (Has.empty (Below.refl w.heap.size w))
  have N1 := Lib.hid (newNo hq hok)
  clear hq hok
  by_cases h8 : (8 : Int) < (ps.length : Int)
  · have e1 : decide ((8 : Int) < (ps.length : Int)) = true := decide_eq_true h8
    clear N1
    go_enter Try.func4, Try.ntmps4
    go_wp2_with fail
    refine (known_walk _).mono ?_
    rintro e wk ⟨rfl, hbk⟩
    have HZ := Lib.hid (H0.out.below.trans (hbk.mono H0.out.size))
    clear hbk
    go_wp2_with fail
    go_ret
    exact ⟨rfl, HZ.out⟩
  · have e1 : decide ((8 : Int) < (ps.length : Int)) = false := decide_eq_false h8
    go_enter Try.func4, Try.ntmps4
    go_wp2_with fail
    refine N1.out.mono ?_
    rintro e w1 ⟨rfl, hw1⟩
    rw [← hw1]
    clear N1 hw1 w1
    go_wp2_with fail
    refine (known_walk _).mono ?_
    rintro e wk ⟨rfl, hbk⟩
    have HZ := Lib.hid (H0.out.below.trans (hbk.mono H0.out.size))
    clear hbk
    go_wp2_with fail
    go_ret
    exact ⟨rfl, HZ.out⟩
theorem once_walk (A : Option Addr) (c : Nat) (ps : List Int) (A' : Option Addr) (m c' : Nat) (v : Int) (w : World) (hq : PkAt w A c ps) (hJ : (m : Int) < 9223372036854775808 ∧ ∀ k, k < m → ∃ ad v, A' = some ad ∧ w.cell? (ad.add k) = some (.int .u8 v) ∧ 0 ≤ v ∧ v < 256) (hv : 0 ≤ v ∧ v < 256) : Calls Try.prog 4 #[.slice A ps.length c, .slice A' m c', .int .u8 v] w fun e w' => e = .returned (.bool true) ∧ Below w.heap.size w w' := by
  by_cases hok : PsOk ps
  · obtain ⟨n, rfl⟩ : ∃ n : Nat, v = (n : Int) := ⟨v.toNat, by omega⟩
    exact once_core A c ps A' m c' n w hq hok hJ.1 hJ.2 (by omega)
  · exact once_no A c ps A' m c' v w hq hok
end Go.Proofs.Ytdpfbmhdbnkdaaa.Tm
