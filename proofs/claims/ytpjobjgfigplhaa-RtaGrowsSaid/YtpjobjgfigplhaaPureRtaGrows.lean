/- The plain statement of RtaGrows: of a greater w the sum is no less; with another task, or with one slot more of each, no response gets shorter. -/
import Derived.Test.YtpjobjgfigplhaaRtaResp
import Derived.Test.YtpjobjgfigplhaaPrintG2
namespace Go.Proofs.Ytpjobjgfigplhaa.Pure
open Go.RowKit Go.Proofs.Ytpjobjgfigplhaa.Print Go.Proofs.Ytpjobjgfigplhaa.PrintG Go.Proofs.YtpjobjgfigplhaaW.PrintWords Go.Proofs.YtpjobjgfigplhaaW.PrintLast Go.Proofs.YtpjobjgfigplhaaW.PrintMore
/-! ### With one task less -/
theorem oth_app {p : Int} {i : Nat} : ∀ (a b : List S41) (j : Nat), oth p i j (a ++ b) = oth p i j a ++ oth p i (j + a.length) b := by
  intro a
  induction a with
  | nil => intro b j; rfl
  | cons x a ih =>
    intro b j
    rw [List.cons_append, oth, oth, ih, List.length_cons, show j + 1 + a.length = j + (a.length + 1) by omega]
    split
    · rfl
    · rfl
theorem others_fewer (l : List S41) (m i : Nat) (hi : i < m) (_hm : m ≤ l.length) : (others (l.take m) i).Sublist (others l i) ∧ (l.take m).getD i z41 = l.getD i z41 := by
  have e : (l.take m).getD i z41 = l.getD i z41 := by
    rw [List.getD_eq_getElem?_getD, List.getD_eq_getElem?_getD, List.getElem?_take, if_pos hi]
  refine ⟨?_, e⟩
  unfold others
  rw [e]
  have h := oth_app (p := (l.getD i z41).f5) (i := i) (l.take m) (l.drop m) 0
  rw [List.take_append_drop] at h
  rw [h]
  exact List.sublist_append_left _ _
theorem S_sub {o : S41} {os os' : List S41} (h : os'.Sublist os) (ok : AllOk o os) {w : Int} (hw : 0 ≤ w) : S o os' w ≤ S o os w := by
  have := sum_sub (f := term o.f5 w) h (fun r hr => term_nonneg (ok.2 r hr) hw)
  unfold S
  omega
theorem Big_sub {o : S41} {os os' : List S41} (h : os'.Sublist os) (ok : AllOk o os) {w : Int} (hw : 0 ≤ w) (hb : Big o os' w) : Big o os w := by
  rcases hb with ⟨r, hr, hb⟩ | hb
  · exact .inl ⟨r, h.subset hr, hb⟩
  · exact .inr (Int.le_trans hb (S_sub h ok hw))
theorem resp_fewer {o : S41} {os os' : List S41} (h : os'.Sublist os) (ok : AllOk o os) (he : (resp o os).2 = 0) : ∃ n, resp o os' = (n, 0) ∧ n ≤ (resp o os).1 := by
  obtain ⟨x, hx, x0, xb, xs, xd, xl⟩ := resp_yes ok he
  have ok' : AllOk o os' := ⟨ok.1, fun r hr => ok.2 r (h.subset hr)⟩
  obtain ⟨n, hn, hle⟩ := resp_le ok' (x := x) (by omega) (fun hb => xb (Big_sub h ok (by omega) hb)) (by have := S_sub h ok (w := x) (by omega); omega) xd
  rw [hx]
  exact ⟨n, hn, by simp only; omega⟩
/-! ### With one slot more of each -/
def inc (r : S41) : S41 := if r.f0 < 4611686018427387903 then { r with f0 := r.f0 + 1 } else r
theorem inc_1 (r : S41) : (inc r).f1 = r.f1 := by unfold inc; split <;> rfl
theorem inc_2 (r : S41) : (inc r).f2 = r.f2 := by unfold inc; split <;> rfl
theorem inc_3 (r : S41) : (inc r).f3 = r.f3 := by unfold inc; split <;> rfl
theorem inc_4 (r : S41) : (inc r).f4 = r.f4 := by unfold inc; split <;> rfl
theorem inc_5 (r : S41) : (inc r).f5 = r.f5 := by unfold inc; split <;> rfl
theorem inc_0 (r : S41) : r.f0 ≤ (inc r).f0 := by
  unfold inc
  split
  · show r.f0 ≤ r.f0 + 1
    omega
  · exact Int.le_refl _
theorem inc_0' (r : S41) (h : r.f0 < 4611686018427387903) : (inc r).f0 = r.f0 + 1 := by unfold inc; rw [if_pos h]
theorem inc_ok (r : S41) (h : RowOk r) : RowOk (inc r) := by
  obtain ⟨c0, c1, b0, b1, t0, t1, d0, d1, j0, j1, p0, p1⟩ := h
  have h0 := inc_0 r
  have h1 : (inc r).f0 < 4611686018427387904 := by
    unfold inc
    split
    · show r.f0 + 1 < _
      omega
    · exact c1
  rw [← inc_1] at b0 b1
  rw [← inc_2] at t0 t1
  rw [← inc_3] at d0 d1
  rw [← inc_4] at j0 j1
  rw [← inc_5] at p0 p1
  exact ⟨by omega, h1, b0, b1, t0, t1, d0, d1, j0, j1, p0, p1⟩
theorem oth_inc {p : Int} {i : Nat} : ∀ (l : List S41) (j : Nat), oth p i j (l.map inc) = (oth p i j l).map inc := by
  intro l
  induction l with
  | nil => intro j; rfl
  | cons x l ih =>
    intro j
    rw [List.map_cons, oth, oth, inc_5]
    split
    · exact ih (j + 1)
    · rw [List.map_cons, ih]
theorem getD_inc (l : List S41) (i : Nat) (hi : i < l.length) : (l.map inc).getD i z41 = inc (l.getD i z41) := by
  rw [List.getD_eq_getElem?_getD, List.getD_eq_getElem?_getD, List.getElem?_map, List.getElem?_eq_getElem hi]
  rfl
theorem others_inc (l : List S41) (i : Nat) (hi : i < l.length) : others (l.map inc) i = (others l i).map inc := by
  unfold others
  rw [getD_inc l i hi, inc_5, oth_inc]
theorem term_inc {p w : Int} {r : S41} (h : RowOk r) (hw : 0 ≤ w) : term p w r ≤ term p w (inc r) := by
  have hc : cnt p w (inc r) = cnt p w r := by unfold cnt; rw [inc_2, inc_4, inc_5]
  unfold term
  rw [hc]
  exact Int.mul_le_mul_of_nonneg_left (inc_0 r) (cnt_nonneg h hw)
theorem sum_inc {p w : Int} (os : List S41) (h : ∀ r ∈ os, RowOk r) (hw : 0 ≤ w) : sum (os.map (term p w)) ≤ sum ((os.map inc).map (term p w)) := by
  rw [List.map_map]
  exact sum_le_of (fun r hr => term_inc (h r hr) hw)
theorem resp_more {o : S41} {os : List S41} (ok : AllOk o os) (he : (resp (inc o) (os.map inc)).2 = 0) : (resp o os).2 = 0 ∧ (resp o os).1 < (resp (inc o) (os.map inc)).1 := by
  have ok' : AllOk (inc o) (os.map inc) := ⟨inc_ok o ok.1, fun r hr => by
    obtain ⟨q, hq, rfl⟩ := List.mem_map.1 hr
    exact inc_ok q (ok.2 q hq)⟩
  obtain ⟨x, hx, x0, xb, xs, xd, xl⟩ := resp_yes ok' he
  have hS : S (inc o) (os.map inc) x = (inc o).f0 + o.f1 + sum ((os.map inc).map (term o.f5 x)) := by unfold S; rw [inc_1, inc_5]
  have hs := sum_inc (p := o.f5) os ok.2 (show 0 ≤ x by omega)
  have hp := S_pos ok' (w := x) (by omega)
  have h0 := inc_0 o
  have hd := inc_3 o
  have hj := inc_4 o
  have hd1 := ok.1.d1
  have hj0 := ok.1.j0
  have hb0 := ok.1.b0
  have hc0 := ok.1.c0
  have hf1 := inc_1 o
  have hc : o.f0 < 4611686018427387903 := by omega
  have h1 := inc_0' o hc
  have hSo : S o os x = o.f0 + o.f1 + sum (os.map (term o.f5 x)) := rfl
  have hlow : S o os x ≤ x - 1 := by omega
  have hm := S_mono ok (show x - 1 ≤ x by omega)
  obtain ⟨n, hn, hle⟩ := resp_le ok (x := x - 1) (by omega) (fun hb => by
    rcases hb with ⟨r, hr, hb⟩ | hb
    · exact xb (.inl ⟨inc r, List.mem_map_of_mem hr, by rw [inc_4]; omega⟩)
    · omega) (by omega) (by omega)
  rw [hn, hx]
  exact ⟨rfl, by simp only; omega⟩
/-! ### The loops -/
def rs' (l : List S41) (i : Nat) : Int × Int := resp (l.getD i z41) (others l i)
theorem set_mid (a b : List S41) (r q : S41) : (a ++ r :: b).set a.length q = a ++ q :: b := by
  rw [List.set_append_right _ _ (Nat.le_refl _), Nat.sub_self]
  rfl
theorem grows_loop (l : List S41) (hl : l.length ≤ 8) (i : Nat) (hi : i < l.length) (ok : ∀ r ∈ l, RowOk r) (hr : RightL (l.map inc)) (n e : Int) (he : rs' l i = (n, e)) :
    ∀ (d j k : Nat), j + d = l.length → d + 1048700 < k → camshaftlaw14_RtaGrows.l0 k (i : Int) n e ((l.take j).map inc ++ l.drop j) (j : Int) = some true := by
  intro d
  induction d with
  | zero =>
    intro j k hj hk
    obtain ⟨k, rfl⟩ : ∃ m, k = m + 1 := ⟨k - 1, by omega⟩
    rw [List.take_of_length_le (by omega), List.drop_of_length_le (by omega), List.append_nil, camshaftlaw14_RtaGrows.l0, List.length_map, if_neg (by omega), resp_some _ hr i (by simpa using hi) k (by omega), getD_inc l i hi, others_inc l i hi, known_at k (by omega)]
    simp only [Option.bind_some]
    have okA : AllOk (l.getD i z41) (others l i) := ⟨ok _ (mem_getD l z41 i hi), fun r hr => ok r (oth_mem hr)⟩
    by_cases h0 : (resp (inc (l.getD i z41)) ((others l i).map inc)).2 = 0
    · rw [if_pos h0]
      obtain ⟨h1, h2⟩ := resp_more okA h0
      unfold rs' at he
      rw [he] at h1 h2
      simp only at h1 h2
      rw [if_pos h1, if_pos h2]
    · rw [if_neg h0]
  | succ d ih =>
    intro j k hj hk
    obtain ⟨k, rfl⟩ : ∃ m, k = m + 1 := ⟨k - 1, by omega⟩
    have hlt : j < l.length := by omega
    have hw : wrap64 ((j : Int) + 1) = ((j + 1 : Nat) : Int) := by rw [wrap_in (by omega)]; omega
    have hlen : ((l.take j).map inc ++ l.drop j).length = l.length := by simp; omega
    have htl : ((l.take j).map inc).length = j := by simp; omega
    have hrd : rd_T41 ((l.take j).map inc ++ l.drop j) (j : Int) = l.getD j z41 := by
      rw [rd41, List.getD_eq_getElem?_getD, List.getElem?_append_right (by omega), htl, Nat.sub_self, List.getElem?_drop, Nat.add_zero, ← List.getD_eq_getElem?_getD]
    have hih := ih (j + 1) k (by omega) (by omega)
    have e : l.take (j + 1) = l.take j ++ [l.getD j z41] := by
      rw [List.getD_eq_getElem?_getD, List.getElem?_eq_getElem (by omega)]
      exact List.take_succ_eq_append_getElem (by omega)
    rw [e, List.map_append, List.append_assoc] at hih
    rw [camshaftlaw14_RtaGrows.l0, hlen, if_pos (by omega), if_pos (by omega), hrd, Int.toNat_natCast, hw]
    have hok := ok _ (mem_getD l z41 j hlt)
    have hdc := drop_cons l z41 j hlt
    by_cases hc : (l.getD j z41).f0 < 4611686018427387903
    · rw [if_pos hc, wrap_in (by have := hok.c0; omega), hdc]
      have hset := set_mid ((l.take j).map inc) (l.drop (j + 1)) (l.getD j z41) (inc (l.getD j z41))
      rw [htl] at hset
      have hinc : (⟨(l.getD j z41).f0 + 1, (l.getD j z41).f1, (l.getD j z41).f2, (l.getD j z41).f3, (l.getD j z41).f4, (l.getD j z41).f5⟩ : S41) = inc (l.getD j z41) := by unfold inc; rw [if_pos hc]
      rw [hinc, hset]
      exact hih
    · rw [if_neg hc, hdc]
      have hinc : inc (l.getD j z41) = l.getD j z41 := by unfold inc; rw [if_neg hc]
      have hih' := hih
      rw [List.map_cons, List.map_nil, hinc] at hih'
      exact hih'
theorem grows_out (l : List S41) (i a b : Int) (k : Nat) (hk : 301 ≤ k) : camshaftlaw14_RtaGrows.j0 k l i true a b = some true := by
  obtain ⟨k, rfl⟩ : ∃ m, k = m + 1 := ⟨k - 1, by omega⟩
  rw [camshaftlaw14_RtaGrows.j0, if_pos rfl, known_at k (by omega)]
  rfl
theorem grows_two (l : List S41) (h : RightL l) (i : Nat) (hi : i < l.length) (k : Nat) (hk : 1048800 ≤ k) (n e : Int) (he : rs' l i = (n, e)) : camshaftlaw14_RtaGrows.j2 k l (i : Int) n e = some true := by
  have hl := h.2
  obtain ⟨k, rfl⟩ : ∃ m, k = m + 1 := ⟨k - 1, by omega⟩
  rw [camshaftlaw14_RtaGrows.j2]
  simp only [Option.bind_some, List.length_nil, List.nil_append]
  rw [if_pos (by omega)]
  have hr : RightL (l.map inc) := ⟨fun r hr => by
    obtain ⟨q, hq, rfl⟩ := List.mem_map.1 hr
    exact inc_ok q (h.1 q hq), by simpa using hl⟩
  have := grows_loop l hl i hi h.1 hr n e he l.length 0 k (by omega) (by omega)
  rw [List.take_zero, List.drop_zero, List.map_nil, List.nil_append] at this
  exact this
theorem grows_one (l : List S41) (h : RightL l) (i : Nat) (hi : i < l.length) (k : Nat) (hk : 1048900 ≤ k) : camshaftlaw14_RtaGrows.j1 k l (i : Int) false = some true := by
  have hl := h.2
  obtain ⟨k, rfl⟩ : ∃ m, k = m + 1 := ⟨k - 1, by omega⟩
  have ok := allOk l h i hi
  rw [camshaftlaw14_RtaGrows.j1, if_neg (by decide), resp_some l h i hi k (by omega)]
  simp only [Option.bind_some, List.length_nil, List.nil_append]
  have hw : wrap64 ((l.length : Int) - 1) = ((l.length - 1 : Nat) : Int) := by rw [wrap_in (by omega)]; omega
  rw [hw, if_pos (by omega), if_pos (by omega), Int.toNat_natCast, if_pos (by simp; omega)]
  have h2 := grows_two l h i hi k (by omega) (resp (l.getD i z41) (others l i)).1 (resp (l.getD i z41) (others l i)).2 rfl
  have hlen : (l.take (l.length - 1)).length = l.length - 1 := by simp
  rw [hlen]
  by_cases hf : (i : Int) < ((l.length - 1 : Nat) : Int)
  · rw [if_pos hf]
    have hR : RightL (l.take (l.length - 1)) := ⟨fun r hr => h.1 r (List.mem_of_mem_take hr), by omega⟩
    obtain ⟨hsub, hge⟩ := others_fewer l (l.length - 1) i (by omega) (by omega)
    rw [resp_some _ hR i (by omega) k (by omega), hge]
    simp only [Option.bind_some]
    by_cases h0 : (resp (l.getD i z41) (others l i)).2 = 0
    · obtain ⟨n, hn, hle⟩ := resp_fewer hsub ok h0
      rw [if_pos h0, hn]
      simp only [if_true]
      rw [if_neg (by omega)]
      exact h2
    · rw [if_neg h0]
      exact h2
  · rw [if_neg hf]
    exact h2
theorem RtaGrows (l : List S41) (i a b : Int) : ∃ k, camshaftlaw14_RtaGrows.f k l i a b = some true := by
  obtain ⟨k1, bb, hb, hlen⟩ := light_ends l
  obtain ⟨k, hk⟩ : ∃ k, k = max k1 2100000 := ⟨_, rfl⟩
  refine ⟨k, ?_⟩
  have hk2 : 2100000 ≤ k := by omega
  unfold camshaftlaw14_RtaGrows.f
  rw [at_rounds (g := fun k => camshaftlaw14_light.f k l) (camshaftlaw14_light.mono l) (show k1 ≤ k by omega) hb]
  clear hk hb
  simp only [Option.bind_some]
  cases bb with
  | false => rw [if_neg (by decide)]; exact grows_out l i a b k (by omega)
  | true =>
    rw [if_pos rfl]
    have hl := hlen rfl
    rw [right_some_l l (by omega) k (by omega)]
    simp only [Option.bind_some, decide_eq_true_eq]
    by_cases h : RightL l
    · rw [if_pos h]
      by_cases i0 : i < 0
      · rw [if_pos i0]; exact grows_out l i a b k (by omega)
      · rw [if_neg i0]
        by_cases i1 : i ≥ (l.length : Int)
        · rw [if_pos i1]; exact grows_out l i a b k (by omega)
        · rw [if_neg i1, decide_eq_false (by omega)]
          obtain ⟨n, rfl⟩ := Int.eq_ofNat_of_zero_le (show 0 ≤ i by omega)
          have hi : n < l.length := by omega
          obtain ⟨k, rfl⟩ : ∃ m, k = m + 1 := ⟨k - 1, by omega⟩
          rw [camshaftlaw14_RtaGrows.j0, if_neg (by decide)]
          have hone := grows_one l h n hi k (by omega)
          have hle : mn a b ≤ mx a b := by unfold mn mx; split <;> split <;> omega
          generalize mn a b = m at *
          generalize mx a b = M at *
          have ok := allOk l h n hi
          by_cases hm : Ok m
          · rw [next_some l h n hi m hm.1 hm.2 k (by omega)]
            simp only [Option.bind_some]
            by_cases hM : Ok M
            · rw [next_some l h n hi M hM.1 hM.2 k (by omega)]
              simp only [Option.bind_some]
              unfold nx
              by_cases g1 : Big (l.getD n z41) (others l n) m
              · rw [if_pos g1, if_pos (Big_mono ok hle g1)]
                exact hone
              · rw [if_neg g1]
                by_cases g2 : Big (l.getD n z41) (others l n) M
                · rw [if_pos g2]
                  exact hone
                · rw [if_neg g2]
                  have := S_mono ok hle
                  simp only [if_true]
                  rw [if_neg (by omega)]
                  exact hone
            · rw [next_none l (by omega) n M (fun hx => hM hx.2.2.2) k (by omega)]
              simp only [Option.bind_some]
              unfold nx
              by_cases g1 : Big (l.getD n z41) (others l n) m
              · rw [if_pos g1]
                exact hone
              · rw [if_neg g1]
                exact hone
          · rw [next_none l (by omega) n m (fun hx => hm hx.2.2.2) k (by omega)]
            simp only [Option.bind_some]
            have : ∃ q, rta_Next.f k l (n : Int) M = some q := by
              by_cases hM : Ok M
              · exact ⟨_, next_some l h n hi M hM.1 hM.2 k (by omega)⟩
              · exact ⟨_, next_none l (by omega) n M (fun hx => hM hx.2.2.2) k (by omega)⟩
            obtain ⟨q, hq⟩ := this
            rw [hq]
            exact hone
    · rw [if_neg h]; exact grows_out l i a b k (by omega)
end Go.Proofs.Ytpjobjgfigplhaa.Pure
