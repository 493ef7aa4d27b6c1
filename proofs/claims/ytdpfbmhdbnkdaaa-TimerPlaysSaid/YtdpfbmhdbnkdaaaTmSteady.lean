/- TimerSteady: without jitter each task is told just at the multiples of its period. -/
import Derived.Test.YtdpfbmhdbnkdaaaTmKnown
set_option linter.unusedVariables false
set_option linter.unusedSimpArgs false
namespace Go.Proofs.Ytdpfbmhdbnkdaaa.Tm
open Go Go.RowKit Go.Proofs.YtdpfbmhdbnkdaaaW.PrintWords Go.Proofs.YtdpfbmhdbnkdaaaW.PrintLast Go.Proofs.YtdpfbmhdbnkdaaaW.PrintMore Go.Proofs.Ytdpfbmhdbnkdaaa Go.Proofs.Ytdpfbmhdbnkdaaa.Print
attribute [local go_sem] max2_int min2_int max_two min_two
/-- what a slot releases, without jitter -/
def st (s : Int) : Int → List Int → List W3
  | _, [] => []
  | i, p :: ps => if s % p = 0 then ⟨i, s, s⟩ :: st s (i + 1) ps else st s (i + 1) ps
theorem st_append (s : Int) : ∀ (a b : List Int) (i : Int), st s i (a ++ b) = st s i a ++ st s (i + a.length) b := by
  intro a
  induction a with
  | nil => intro b i; simp [st]
  | cons p a ih =>
    intro b i
    rw [List.cons_append, st, st, ih b (i + 1), List.length_cons, show i + 1 + (a.length : Int) = i + ((a.length + 1 : Nat) : Int) by omega]
    split <;> simp
theorem ins_end (x : W3) : ∀ (l : List W3), (∀ y ∈ l, y.lt x) → ins x l = l ++ [x] := by
  intro l
  induction l with
  | nil => intro _; rfl
  | cons y l ih =>
    intro h
    rw [ins, if_pos (h y (by simp)), ih (fun z hz => h z (by simp [hz]))]
    rfl
theorem rel_st (s : Int) : ∀ (ps : List Int) (i : Int) (ws : List W3), (∀ y ∈ ws, y.t < i) → rel s i ps [] ws = ws ++ st s i ps := by
  intro ps
  induction ps with
  | nil => intro i ws _; simp [rel, st]
  | cons p ps ih =>
    intro i ws h
    rw [rel, st]
    split
    · have e : late [] = 0 := rfl
      rw [e, Int.add_zero, ins_end _ ws (fun y hy => .inl (h y hy)), List.tail_nil, ih (i + 1) _ (fun y hy => ?_), List.append_assoc]
      · rfl
      · rcases List.mem_append.1 hy with hy | hy
        · have := h y hy; omega
        · rw [List.mem_singleton] at hy; subst hy; show i < i + 1; omega
    · exact ih (i + 1) ws (fun y hy => by have := h y hy; omega)
theorem st_at (s : Int) : ∀ (ps : List Int) (i : Int), ∀ x ∈ st s i ps, x.a = s := by
  intro ps
  induction ps with
  | nil => intro i x hx; cases hx
  | cons p ps ih =>
    intro i x hx
    rw [st] at hx
    split at hx
    · rcases List.mem_cons.1 hx with rfl | hx
      · rfl
      · exact ih _ x hx
    · exact ih _ x hx
theorem st_len (s : Int) : ∀ (ps : List Int) (i : Int), (st s i ps).length ≤ ps.length := by
  intro ps
  induction ps with
  | nil => intro i; exact Nat.le_refl _
  | cons p ps ih =>
    intro i
    have := ih (i + 1)
    rw [st]
    split <;> simp <;> omega
theorem steady_tick (s : Int) (ps : List Int) : told s (rel s 0 ps [] []) = st s 0 ps ∧ left s (rel s 0 ps [] []) = [] := by
  have h := rel_st s ps 0 [] (by simp)
  rw [h, List.nil_append]
  have ha := st_at s ps 0
  constructor
  · exact List.filter_eq_self.2 (fun x hx => by simp [ha x hx])
  · exact List.filter_eq_nil_iff.2 (fun x hx => by simp [ha x hx])
theorem PkAt.step {w W : World} {A : Option Addr} {c : Nat} {qs : List Int} (h : PkAt w A c qs) (hb : Below w.heap.size w W) : PkAt W A c qs := by
  refine ⟨h.1, fun i hi => ?_⟩
  obtain ⟨ad, h1, h2⟩ := h.2 i hi
  exact ⟨ad, h1, (hb.cell (World.block_lt_of_cell? w _ h2)).trans h2⟩
theorem due_cells {w0 W : World} {L : List Asn} {A : Option Addr} {c : Nat} {l : List S48} (h : Has w0 W L) (hd : dueA (.slice A l.length c) l ∈ L) (k : Nat) (x : S48) (hx : l[k]? = some x) : ∃ b, A = some ⟨b, 0, none⟩ ∧ W.cell? ⟨b, k * 2, none⟩ = some (.int .i64 x.f0) ∧ W.cell? ⟨b, k * 2 + 1, none⟩ = some (.int .i64 x.f1) := by
  obtain ⟨_, ⟨_, hr⟩, _⟩ := h.get hd
  have hk : k < l.length := (List.getElem?_eq_some_iff.1 hx).1
  obtain ⟨b, rfl, h0, h1⟩ := RowIs.elem hr k hk
  rw [List.getD_eq_getElem?_getD, hx] at h0 h1
  exact ⟨b, rfl, h0, h1⟩
theorem steadyT {w0 W : World} {g pb pc s : Nat} {ps : List Int} (h : Has w0 W [timA g (.slice (some ⟨pb, 0, none⟩) ps.length pc) s [], intA (.slice (some ⟨pb, 0, none⟩) ps.length pc) ps]) (hok : PsOk ps) (hg : Good ps s []) (hs : s ≤ 1000) : Calls Try.prog 14 #[.pointer (some ⟨g, 0, none⟩), .slice none 0 0] W fun e w' => ∃ A' c', ((st s 0 ps).map W3.due).length ≤ c' ∧ e = .returned (.slice A' ((st s 0 ps).map W3.due).length c') ∧
      Has w0 w' [dueA (.slice A' ((st s 0 ps).map W3.due).length c') ((st s 0 ps).map W3.due), timA g (.slice (some ⟨pb, 0, none⟩) ps.length pc) (s + 1) [], intA (.slice (some ⟨pb, 0, none⟩) ps.length pc) ps] := by
  have := tickH (L1 := []) (ps := ps) (qs := []) (now := s) h (by simp) hok hg (by omega) (PkAt.nil W) (by decide)
  rw [(steady_tick s ps).1, (steady_tick s ps).2] at this
  exact this
theorem good_nil (ps : List Int) (s : Nat) : Good ps s [] := ⟨List.Pairwise.nil, by simp, by simp, by simp, by simp⟩
def SteadyRel (w : World) (g pb pc n : Nat) (ps : List Int) (vi : Value) (wr : World) : Prop := ∃ s : Nat, s ≤ n ∧ vi = .int .i64 s ∧ Has w wr [timA g (.slice (some ⟨pb, 0, none⟩) ps.length pc) s [], intA (.slice (some ⟨pb, 0, none⟩) ps.length pc) ps]
def SteadyIn (s : Int) (ps : List Int) (vk vi : Value) : Prop := ∃ i : Nat, i ≤ ps.length ∧ vi = .int .i64 i ∧ vk = .int .i64 ((st s 0 (ps.take i)).length : Int)
theorem st_split (s : Int) (ps : List Int) (i : Nat) (h : i < ps.length) : st s 0 (ps.take (i + 1)) = st s 0 (ps.take i) ++ (if s % ps.getD i 0 = 0 then [⟨i, s, s⟩] else []) ∧ (s % ps.getD i 0 = 0 → (st s 0 ps)[(st s 0 (ps.take i)).length]? = some ⟨i, s, s⟩) := by
  have hd := drop_cons ps i h
  have ht : (ps.take i).length = i := by rw [List.length_take]; omega
  have e1 : ps.take (i + 1) = ps.take i ++ [ps.getD i 0] := by
    rw [List.getD_eq_getElem?_getD, List.getElem?_eq_getElem h]
    exact List.take_succ_eq_append_getElem h
  constructor
  · rw [e1, st_append, ht, Int.zero_add, st]
    split <;> rfl
  · intro hm
    have e2 : st s 0 ps = st s 0 (ps.take i) ++ st s (0 + (ps.take i).length) (ps.drop i) := by rw [← st_append, List.take_append_drop]
    rw [e2, hd, ht, Int.zero_add, st, if_pos hm, List.getElem?_append_right (Nat.le_refl _), Nat.sub_self]
    rfl
set_option maxRecDepth 100000 in
set_option maxHeartbeats 4000000 in
theorem steady_walk (A : Option Addr) (c : Nat) (ps : List Int) (v : Int) (w : World) (hq : PkAt w A c ps) (hv : 0 ≤ v ∧ v < 256) : Calls Try.prog 7 #[.slice A ps.length c, .int .u8 v] w fun e w' => e = .returned (.bool true) ∧ Below w.heap.size w w' := by
  have HQ := Lib.hid hq
  have H0 := Lib.hid (Has.empty (Below.refl w.heap.size w))
  clear hq
  obtain ⟨n, rfl⟩ : ∃ n : Nat, v = (n : Int) := ⟨v.toNat, by omega⟩
  have hn : n < 256 := by omega
  have hwv : wrap64 (n : Int) = (n : Int) := wrapIn (by omega)
  clear hv
  by_cases hok : PsOk ps
  · have N1 := Lib.hid (newH H0.out HQ.out hok)
    have HK := Lib.hid hok
    clear hok
    go_enter Try.func7, Try.ntmps7
    go_wp2_with fail
    refine N1.out.mono ?_
    rintro e w1 ⟨g, pb, pc, rfl, H1⟩
    replace H1 := Lib.hid H1
    clear N1
    go_wp2_with fail
    go_loopw [7] (fun vi wr => SteadyRel w g pb pc n ps vi wr) (fun vi _ => n - (intOf vi).toNat)
    case atStart => exact ⟨0, Nat.zero_le _, rfl, H1.out⟩
    case round =>
      obtain ⟨s, hs, rfl, HS⟩ := hrel
      replace HS := Lib.hid HS
      by_cases hsn : s < n
      · have hsn' : (s : Int) < (n : Int) := by omega
        have hs2 : s < 256 := by omega
        have hps8 := HK.out.le
        have N2 := Lib.hid (steadyT HS.out HK.out (good_nil ps s) (by omega))
        go_wp2_with fail
        refine N2.out.mono ?_
        rintro e w2 ⟨A2, c2, hc2, rfl, H2⟩
        have hsl := st_len s ps 0
        have hsp := Lib.hid (fun i h => st_split s ps i h)
        replace H2 := Lib.hid H2
        replace hc2 := Lib.hid hc2
        clear N2
        have hD : ((st s 0 ps).map W3.due).length = (st s 0 ps).length := List.length_map _
        generalize hdd : (st s 0 ps).map W3.due = D at *
        have hHQ := HQ.out.step H2.out.below
        replace hHQ := Lib.hid hHQ
        replace hdd := Lib.hid hdd
        have hDl : D.length ≤ 8 := by omega
        replace hD := Lib.hid hD
        go_wp2_with fail
        go_loop [9, 10] (fun vk vi => SteadyIn s ps vk vi) (fun _ vi => ps.length - (intOf vi).toNat)
        case atStart => exact ⟨0, Nat.zero_le _, rfl, rfl⟩
        case round =>
          obtain ⟨i, hi, rfl, rfl⟩ := hrel
          by_cases hin : i < ps.length
          · have hin' : (i : Int) < (ps.length : Int) := by omega
            have hi8 : i < 8 := by omega
            obtain ⟨ad, rfl, hcell⟩ := hHQ.out.2 i hin
            obtain ⟨p1, p2⟩ := hsp.out i hin
            have hpm : ps.getD i 0 ∈ ps := by rw [List.getD_eq_getElem?_getD, List.getElem?_eq_getElem hin]; exact List.getElem_mem hin
            obtain ⟨hp1, hp2⟩ := HK.out.each _ hpm
            have hkl : (st s 0 (ps.take i)).length ≤ 8 := by have := st_len s (ps.take i) 0; rw [List.length_take] at this; omega
            generalize ps.getD i 0 = p at *
            generalize hk : (st s 0 (ps.take i)).length = k at *
            have hp0 : (p == 0) = false := beq_eq_false_iff_ne.mpr (by omega)
            by_cases hm : (s : Int) % p = 0
            · have t2 : ((s : Int) % p == 0) = true := by simp [hm]
              have hx := p2 hm
              have hdk : D[k]? = some ⟨i, s⟩ := by rw [← hdd.out, List.getElem?_map, hx]; rfl
              have hkD : k < D.length := (List.getElem?_eq_some_iff.1 hdk).1
              obtain ⟨b, rfl, x0, x1⟩ := due_cells (A := A2) (c := c2) H2.out (by simp) k _ hdk
              have tk : decide (D.length ≤ k) = false := decide_eq_false (by omega)
              have tk2 : decide ((D.length : Int) ≤ (k : Int)) = false := decide_eq_false (by omega)
              have hkD' : (k : Int) < (D.length : Int) := by omega
              rw [if_pos hm] at p1
              have hnext : (st s 0 (ps.take (i + 1))).length = k + 1 := by rw [p1, List.length_append, hk]; rfl
              replace hnext := Lib.hid hnext
              replace hm := Lib.hid hm
              replace hk := Lib.hid hk
              clear p1 p2 hx hdk hpm
              go_wp2_with fail
              go_round
              case rel => exact ⟨i + 1, by omega, by go_num, by rw [hnext.out]; go_num⟩
              case measure => simp [intOf]; omega
            · have t2 : ((s : Int) % p == 0) = false := by simp [hm]
              rw [if_neg hm, List.append_nil] at p1
              have hnext : (st s 0 (ps.take (i + 1))).length = k := by rw [p1]; exact hk
              replace hnext := Lib.hid hnext
              replace hm := Lib.hid hm
              replace hk := Lib.hid hk
              clear p1 p2 hpm
              go_wp2_with fail
              go_round
              case rel => exact ⟨i + 1, by omega, by go_num, by rw [hnext.out]⟩
              case measure => simp [intOf]; omega
          · have e0 : ¬ ((i : Int) < (ps.length : Int)) := by omega
            obtain rfl : i = ps.length := by omega
            rw [List.take_length]
            have hk : (st s 0 ps).length = D.length := hD.out.symm
            rw [hk]
            replace hk := Lib.hid hk
            go_wp2_with fail
            refine (waitH (g := g) (pv := .slice (some ⟨pb, 0, none⟩) ps.length pc) (now := s + 1) (ws := []) H2.out (by simp) List.Pairwise.nil (by decide)).mono ?_
            rintro e w3 ⟨A3, c3, _, rfl, H3⟩
            have H4 : Has w w3 [timA g (.slice (some ⟨pb, 0, none⟩) ps.length pc) (s + 1) [], intA (.slice (some ⟨pb, 0, none⟩) ps.length pc) ps] := H3.sub (((List.Sublist.refl _).cons _).cons _)
            replace H4 := Lib.hid H4
            clear H3
            go_wp2_with fail
            go_roundw
            case rel => exact ⟨s + 1, by omega, by go_num, H4.out⟩
            case measure => simp [intOf]; omega
      · have e0 : ¬ ((s : Int) < (n : Int)) := by omega
        go_wp2_with fail
        refine (known_walk _).mono ?_
        rintro e wk ⟨rfl, hbk⟩
        have HZ := Lib.hid (HS.out.below.trans (hbk.mono HS.out.size))
        clear hbk
        go_wp2_with fail
        go_ret
        exact ⟨rfl, HZ.out⟩
  · have N1 := Lib.hid (newNo HQ.out hok)
    clear hok
    go_enter Try.func7, Try.ntmps7
    go_wp2_with fail
    refine N1.out.mono ?_
    rintro e w1 ⟨rfl, rfl⟩
    clear N1
    go_wp2_with fail
    refine (known_walk _).mono ?_
    rintro e wk ⟨rfl, hbk⟩
    have HZ := Lib.hid (H0.out.below.trans (hbk.mono H0.out.size))
    clear hbk
    go_wp2_with fail
    go_ret
    exact ⟨rfl, HZ.out⟩
end Go.Proofs.Ytdpfbmhdbnkdaaa.Tm
