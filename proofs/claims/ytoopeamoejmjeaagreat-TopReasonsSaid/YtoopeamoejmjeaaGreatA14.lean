/- Steps of the walk, merged and shortened by a program (fit.py). -/
import Derived.Deep.WholeRow
import Derived.Lib.Hide
import Derived.LoopIn
import Derived.LoopNIn
import Derived.OwnWalkIn
import Derived.RangeFuncBound
import Derived.RangeFuncCalls
import Derived.RangeFuncLeaves
import Derived.RangeFuncNested
import Derived.TacticsInMore
import Derived.Test.YtoopeamoejmjeaaGreatA01
import Derived.Test.YtoopeamoejmjeaaGreatA02
import Derived.Test.YtoopeamoejmjeaaGreatA12
import Derived.Test.YtoopeamoejmjeaaGreatA13
import Derived.Test.YtoopeamoejmjeaaGreatWCut
set_option linter.unusedVariables false
set_option linter.unusedSimpArgs false
set_option maxRecDepth 100000
set_option maxHeartbeats 4000000
open Nat renaming le_refl → NR
open List renaming getElem?_eq_getElem → GE
open Go.RowKit.Below renaming refl → BR
open ByteArray renaming empty → BE
open List renaming getD_eq_getElem?_getD → GD
open Array renaming mem_of_getElem? → AM
open List renaming mem_of_getElem? → LM
open List renaming getElem?_eq_some_iff → GI
open List renaming map_toArray → MA
open Go.RowKit.Below renaming heap_setCell → BH
open Go.Lib renaming hid → ZZ
open Go.Value renaming int → O
open Go.IntKind renaming i64 → Y
namespace Go.Proofs.YtoopeamoejmjeaaGreat.Tp
open RowKit YtoopeamoejmjeaaGreatW.PrintWords YtoopeamoejmjeaaGreatW.PrintLast YtoopeamoejmjeaaGreatW.PrintMore Tm
open Rd (z30 S30 enc3 mxp places pickPlace)
section
deriving instance DecidableEq for S30
structure KF where
 gs : Nat
 gp : Nat
 g0 : Nat
 g1 : Nat
 gt : Nat
 pb : Nat
 pc : Nat
 vo : Value
 vm : Value
 vs : Value
 vb : Value
 vt : Value
 vc : Value
 c0 : Value
 m0 : Value
 c1 : Value
 m1 : Value
 mem : List Value
structure KV where
 vr : Value
 vd : Value
 ve : Value
 gi : Nat
structure MK where
 on : Bool
 at_ : Int
 ms : Int
 deriving DecidableEq
structure RK where
 j : S30
 bg : Int
 pt : Int
 ls : Int
 ph : Int
 lf : Int
 us : Int
 deriving DecidableEq
structure EK where
 k : Int
 t : Int
 a : Int
 b : Int
 deriving DecidableEq
structure KP where
 now : Nat
 jobs : List S30
 a0 : MK
 a1 : MK
 run : Option RK
 done : List RK
 ev : List EK
 deriving DecidableEq
def EK.enc (e : EK) : List Value := [O Y e.k, O Y e.t, O Y e.a, O Y e.b]
def RK.enc (r : RK) : List Value := [O Y r.j.f0, O Y r.j.f2, O Y r.bg, O Y r.pt, O Y r.ls, O Y 0, O Y 0, O Y 0, O Y 0, O Y 0, O Y 0, O Y 0, O Y 0, O Y 0, O Y 0, O Y 0, O Y 0, O Y 0, O Y 0, O Y 0, O Y 0, .slice none 0 0]
def RK.gm (r : RK) (F : KF) : Nat := if r.j.f0 = 0 then F.g0 else F.g1
def KQ (F : KF) (V : KV) : PQ := PQ.mk 1 1 1 0 F.vs F.vb F.vt F.vc (fun _ => O Y 0) F.vo F.mem F.vm (.pointer (some ⟨F.gt, 0, none⟩)) (.pointer (some ⟨F.gs, 0, none⟩)) V.vr V.vd false V.ve
def runC (V : KV) : Option RK → List Value
 | none => []
 | some r => .pointer (some ⟨V.gi, 0, none⟩) :: r.enc
def runN : Option RK → Nat
 | none => 0
 | some _ => 1
def runA (F : KF) (V : KV) : Option RK → Asn
 | none => nilA
 | some r => instA V.gi r.j (r.gm F) r.ph r.lf r.us
def MK.cells (m : MK) (vc vm : Value) : Array Value := machC vc vm m.on m.at_ m.ms
def KL (F : KF) (V : KV) (P : KP) : List Asn := [setA F.gs P.jobs, rowA 3 1 0 F.vo [], boxA F.gp 89 (KQ F V).cs, rowA 90 1 2 F.vm [.pointer (some ⟨F.g0, 0, none⟩), .pointer (some ⟨F.g1, 0, none⟩)], boxA F.g0 146 (P.a0.cells F.c0 F.m0), rowA 127 3 1 F.c0 [O Y 25, O Y 0, O Y 0], boxA F.g1 146 (P.a1.cells F.c1 F.m1), rowA 127 3 1 F.c1 [O Y 25, O Y 0, O Y 0], timA F.gt (.slice (some ⟨F.pb, 0, none⟩) 2 F.pc) P.now [], intA (.slice (some ⟨F.pb, 0, none⟩) 2 F.pc) [50, 20], rowA 184 23 (runN P.run) V.vr (runC V P.run), rowA 182 22 P.done.length V.vd (P.done.flatMap RK.enc), rowA 64 4 P.ev.length V.ve (P.ev.flatMap EK.enc), runA F V P.run]
def im0 : ImageD := ⟨1, 1, 1, 0, [], [], [⟨1, 50, 50, 0, [], [], [⟨25, 0, 0⟩]⟩, ⟨2, 20, 20, 0, [], [], [⟨25, 0, 0⟩]⟩]⟩
structure KOk (F : KF) (w0 : World) : Prop where
 hm : F.mem.length = 64
 hvc : ∃ A c, F.vc = .slice A 0 c
 hI : ImageAt w0 (.agg #[O Y 1, O Y 1, O Y 1, O Y 0, F.vs, F.vb, F.vt]) im0
 h0 : F.m0.oneCell' = true
 h1 : F.m1.oneCell' = true
section
variable {w0 W : World} {F : KF} {V : KV} {P : KP} {M : List Asn} (H : Has w0 W (KL F V P ++ M)) (hm : F.mem.length = 64)
include H hm
theorem kdepth_any : Calls Tryz.prog 122 #[.pointer (some ⟨F.gp, 0, none⟩)] W fun e w' => e = .returned (O Y (runN P.run : Nat)) ∧ w' = W := by
 have c := PQ.runs_at (H.blk (k := 2) rfl) hm; obtain ⟨A, cc, hv, -⟩ := LRow.slice (H.rowK (k := 10) rfl); rw [show (KQ F V).runs = V.vr from rfl, hv] at c; replace hm := ZZ hm; replace hv := ZZ hv; clear H; go_enter Tryz.func122, Tryz.ntmps122; go_wp2_with fail; go_ret; exact ⟨rfl, rfl⟩
theorem kthere_any : Calls Tryz.prog 41 #[.pointer (some ⟨F.gp, 0, none⟩)] W fun e w' => e = .returned (.bool true) ∧ w' = W := by
 have c := (PQ.tim_at (H.blk (k := 2) rfl) hm).trans (rfl : _ = some (Value.pointer (some ⟨F.gt, 0, none⟩))); replace hm := ZZ hm; clear H; go_enter Tryz.func41, Tryz.ntmps41; go_wp2_with fail; go_ret; exact ⟨rfl, rfl⟩
theorem kfault_any : Calls Tryz.prog 227 #[.pointer (some ⟨F.gp, 0, none⟩)] W fun e w' => e = .returned (.bool false) ∧ w' = W := by
 have c := (PQ.fault_at (H.blk (k := 2) rfl) hm).trans (rfl : _ = some (Value.bool false)); replace hm := ZZ hm; clear H; go_enter Tryz.func227, Tryz.ntmps227; go_wp2_with fail; go_ret; exact ⟨rfl, rfl⟩
omit H hm in
theorem kinputs_any (W : World) (v : Addr) : Calls Tryz.prog 43 #[.pointer (some v), .slice none 0 0] W fun e w' => e = .returned (.tuple #[]) ∧ w' = W := by
 go_enter Tryz.func43, Tryz.ntmps43; go_wp2_with fail; go_loop [8] (fun vi => vi = O Y 0) (fun _ => 0); case atStart => rfl
 case round =>
  obtain rfl := hrel; go_wp2_with fail; go_end0; exact ⟨rfl, rfl⟩
theorem ktop_none (hr : P.run = none) : Calls Tryz.prog 82 #[.pointer (some ⟨F.gp, 0, none⟩)] W fun e w' => e = .returned (.pointer none) ∧ w' = W := by
 have c := PQ.runs_at (H.blk (k := 2) rfl) hm; obtain ⟨A, cc, hv, -⟩ := LRow.slice (H.rowK (k := 10) rfl); rw [show (KQ F V).runs = V.vr from rfl, hv, hr] at c; replace c := c.trans (rfl : _ = some (Value.slice A 0 cc)); replace hm := ZZ hm; replace hv := ZZ hv; clear H hr; go_enter Tryz.func82, Tryz.ntmps82; go_wp2_with fail; go_ret; exact ⟨rfl, rfl⟩
omit hm in
theorem krow {r : RK} (hr : P.run = some r) : ∃ gr cc, V.vr = .slice (some ⟨gr, 0, none⟩) 1 cc ∧ ∀ (i : Nat) u, (Value.pointer (some ⟨V.gi, 0, none⟩) :: r.enc)[i]? = some u → W.cell? ⟨gr, i, none⟩ = some u ∧ W.frozen? ⟨gr, i, none⟩ = false := by
 have hrow := H.rowK (k := 10) rfl; rw [hr] at hrow; rcases id hrow.2 with ⟨_, h⟩ | ⟨gr, cap, cur, h, -, hb, -⟩
 · cases h
 · refine ⟨gr, cap, h, fun i u hu => ⟨?_, blk_frozen hb i⟩⟩; rw [h] at hrow; have := LRow.cell hrow i u (by simpa [runC] using hu); rwa [add_plain] at this
omit H hm in
theorem kmach (F : KF) (V : KV) (P : KP) (M : List Asn) (r : RK) : ∃ (km : Nat) (vc vm : Value) (m : MK), (KL F V P ++ M)[km]? = some (boxA (r.gm F) 146 (machC vc vm m.on m.at_ m.ms)) := by
 unfold RK.gm; split
 · exact ⟨4, F.c0, F.m0, P.a0, rfl⟩
 · exact ⟨6, F.c1, F.m1, P.a1, rfl⟩
theorem ktop_some {gr cc : Nat} (hv : V.vr = .slice (some ⟨gr, 0, none⟩) 1 cc) : Calls Tryz.prog 82 #[.pointer (some ⟨F.gp, 0, none⟩)] W fun e w' => e = .returned (.pointer (some ⟨gr, 0, none⟩)) ∧ w' = W.drew := by
 have c := PQ.runs_at (H.blk (k := 2) rfl) hm; rw [show (KQ F V).runs = V.vr from rfl, hv] at c; replace hm := ZZ hm; replace hv := ZZ hv; clear H; go_enter Tryz.func82, Tryz.ntmps82; go_wp2_with fail; refine st 12 (S := fun w' => w'.cell? ⟨F.gp, 92, none⟩ = some (.slice (some ⟨gr, 0, none⟩) 1 cc)) (ds := []) c (fun hHeld => ?_); refine pq 0 ?_; refine pq 1 ?_; refine pq 2 ?_; refine pq 4 ?_; refine pq 5 ?_; refine pq 6 ?_; refine tk 3 hHeld ?_; refine tk 7 hHeld ?_; refine pq 8 ?_; refine pq 9 ?_ (v := O Y 0) (hy := by intro w'; go_simp; rfl); refine pq 10 ?_; refine pq 11 ?_; refine dn ?_; go_wp2_with fail; go_ret; exact ⟨rfl, rfl⟩
end
end
section
theorem info64K : (Tryz.prog.info? 64).map (fun i => (i.zero, i.size, i.bytes)) = some (some (.agg #[O Y 0, O Y 0, O Y 0, O Y 0]), 4, 32) := by kernel_rfl
theorem info3K : (Tryz.prog.info? 3).map (fun i => (i.zero, i.size, i.bytes)) = some (some (O Y 0), 1, 8) := by kernel_rfl
theorem nil_row {w0 W : World} {L : List Asn} {k e size : Nat} {v : Value} {xs : List Value} (H : Has w0 W L) (hk : L[k]? = some (rowA e size 0 v xs)) : ∃ A c, v = .slice A 0 c ∧ (A = none → c = 0) := by
 rcases (H.rowK hk).2 with ⟨h, _⟩ | ⟨g, cap, cur, h, _⟩
 · exact ⟨none, 0, h, fun _ => rfl⟩
 · exact ⟨_, cap, h, fun h => by cases h⟩
section
variable {w0 W : World} {F : KF} {V : KV} {P : KP} {M : List Asn} (H : Has w0 W (KL F V P ++ M)) (hF : KOk F w0)
include H hF
theorem ksay_any (k t a b : Int) (hl : P.ev.length ≤ 1000) : Calls Tryz.prog 46 #[.pointer (some ⟨F.gp, 0, none⟩), O Y k, O Y t, O Y a, O Y b] W fun e w' => e = .returned (.tuple #[]) ∧ ∃ ve, Has w0 w' (KL F { V with ve := ve } { P with ev := P.ev ++ [⟨k, t, a, b⟩] } ++ M) := by
 have hm := hF.hm; have c := PQ.ev_at (H.blk (k := 2) rfl) hm; have H1 := H.new 64 #[O Y k, O Y t, O Y a, O Y b]; have r1 := H1.rowK (k := 12) rfl; obtain ⟨A, cc, hv, -⟩ := LRow.slice r1; rw [hv] at r1; rw [show (KQ F V).ev = V.ve from rfl, hv] at c; have hne : (V.ve.ownBlock = (Value.slice A P.ev.length cc).ownBlock) := by rw [hv]
 replace H1 := ZZ H1; replace r1 := ZZ r1; replace hm := ZZ hm; replace hne := ZZ hne; replace hv := ZZ hv; clear H hF; go_enter Tryz.func46, Tryz.ntmps46; go_wp2_with (first | (at_builtin; refine wpList_append_loose (W.alloc (.cells #[O Y k, O Y t, O Y a, O Y b] 64)) 0 rfl (.tmp 14) (.tmp 20) 57 64 _ 4 32 rfl Tryz.underlying57 info64K rfl (by decide) (by decide) (.slice A P.ev.length cc) P.ev.length (P.ev.flatMap EK.enc) (EK.enc ⟨k, t, a, b⟩) (some ⟨W.heap.size, 0, none⟩) 1 1 rfl rfl rfl (by simp [EK.enc, Value.oneCell']) r1.out (.inr ⟨_, rfl, World.news_of_block (heap_alloc_new W (.cells #[O Y k, O Y t, O Y a, O Y b] 64))⟩) (Nat.zero_le _) (by omega) ?go) | fail)
 case go =>
  intro v1 w1 hrow hg hat
  obtain ⟨A1, c1, rfl, -⟩ := LRow.slice hrow; have H2 := Has.growK H1.out (k := 12) rfl (by rw [hne.out]; exact hg) hrow (by rw [hne.out]; rcases hat with h | h; exact .inl h; exact .inr ⟨_, h, by simp⟩); have c95 := PQ.ev_at (H2.blk (k := 2) rfl) hm.out; have f95 := blk_frozen (H2.blk (k := 2) rfl) 95; replace c95 := c95.trans (rfl : _ = some V.ve); have H3 := hset_ev H2 (k := 2) rfl hm.out (.slice A1 (P.ev.length + 1) c1); have H4 : Has w0 (w1.setCell ⟨F.gp, 95, none⟩ (.slice A1 (P.ev.length + 1) c1)) (KL F { V with ve := .slice A1 (P.ev.length + 1) c1 } { P with ev := P.ev ++ [⟨k, t, a, b⟩] } ++ M) := by
   unfold KL; rw [List.length_append, List.flatMap_append, show ([⟨k, t, a, b⟩] : List EK).flatMap EK.enc = EK.enc ⟨k, t, a, b⟩ by simp]; cases hr : P.run with
   | none => unfold KL at H3; rw [hr] at H3; exact H3
   | some r => unfold KL at H3; rw [hr] at H3; exact H3
  replace H4 := ZZ H4; clear hrow hg hat H2 H3 c; go_wp2_with fail; go_end0; exact ⟨rfl, _, H4.out⟩
theorem kports_any : Calls Tryz.prog 228 #[.pointer (some ⟨F.gp, 0, none⟩)] W fun e w' => (∃ A c, e = .returned (.slice A 0 c)) ∧ Below W.heap.size W w' := by
 have hm := hF.hm; obtain ⟨A, cc, hv, hA⟩ := nil_row H (k := 1) rfl; have c := PQ.out_at (H.blk (k := 2) rfl)
 rw [show (KQ F V).out = F.vo from rfl, hv] at c; have hsrc : (Value.slice none 0 0 = .slice none 0 0 ∧ A = none ∧ 0 = 0 ∧ cc = 0) ∨ ∃ a, A = some a ∧ ∀ (j : Nat) (u : Value), ([] : List Value)[j]? = some u → W.cell? (a.add j) = some u := by
  cases A with
  | none => exact .inl ⟨rfl, rfl, rfl, hA rfl⟩
  | some a => exact .inr ⟨a, rfl, fun j u hj => by simp at hj⟩
 replace hsrc := ZZ hsrc; replace hA := ZZ hA; replace hm := ZZ hm; replace hv := ZZ hv; clear H hF; go_enter Tryz.func228, Tryz.ntmps228; go_wp2_with (first | (at_builtin; refine wpList_append_loose W 0 rfl (.const (.slice none 0 0)) (.tmp 8) 22 3 _ 1 8 rfl Tryz.underlying22 info3K rfl (by decide) (by decide) (.slice none 0 0) 0 [] [] A 0 cc rfl rfl rfl (by simp) ⟨rfl, .inl ⟨rfl, rfl⟩⟩ hsrc.out (Nat.zero_le _) (by decide) ?go) | fail)
 case go =>
  intro v1 w1 hrow hg hat
  obtain ⟨A1, c1, rfl, -⟩ := LRow.slice hrow; have hb := ZZ ((BR W.heap.size W).grown hg (NR _) (fun k hk => by simp [Value.ownBlock] at hk)); clear hrow hg hat
  go_wp2_with fail; go_ret; exact ⟨⟨_, _, rfl⟩, hb.out⟩
theorem kact_none (hr : P.run = none) : Calls Tryz.prog 80 #[.pointer (some ⟨F.gp, 0, none⟩)] W fun e w' => e = .returned (O Y 0) ∧ w' = W := by
 have hD := kdepth_any H hF.hm; rw [hr] at hD; replace hD := ZZ hD; clear H hF hr; go_enter Tryz.func80, Tryz.ntmps80; go_wp2_with fail; refine hD.out.mono ?_; rintro e w' ⟨rfl, rfl⟩; go_wp2_with fail; go_ret; exact ⟨rfl, rfl⟩
theorem kact_some {r : RK} (hr : P.run = some r) : Calls Tryz.prog 80 #[.pointer (some ⟨F.gp, 0, none⟩)] W fun e w' => e = .returned (O Y r.j.f1) ∧ Below W.heap.size W w' := by
 have hD := kdepth_any H hF.hm; rw [hr] at hD; obtain ⟨gr, cr, hv, hcell⟩ := krow H.drewK hr; have hT := ZZ (fun w (H : Has w0 w (KL F V P ++ M)) => ktop_some H hF.hm hv); obtain ⟨A, cc, hvc⟩ := hF.hvc; obtain ⟨km, vc, vm, m, hkm⟩ := kmach F V P M r; have hi : (KL F V P ++ M)[13]? = some (boxA V.gi 244 (instC r.j (r.gm F) r.ph r.lf r.us)) := by show some (runA F V P.run) = _; rw [hr]; rfl
 have hA := ZZ (fun w (H : Has w0 w (KL F V P ++ M)) => iact_any H hi hkm A cc); have c7 := PQ.ceil_at (H.drewK.blk (k := 2) rfl)
 rw [show (KQ F V).ceil = F.vc from rfl, hvc] at c7; have x0 := (hcell 0 _ rfl).1; have HD := ZZ H.drewK; replace hD := ZZ hD; clear H hF hr hcell hv hvc hkm hi; go_enter Tryz.func80, Tryz.ntmps80; go_wp2_with fail; refine hD.out.mono ?_; rintro e V1 ⟨rfl, rfl⟩; go_wp2_with fail; refine st 11 (S := fun w' => w'.cell? ⟨F.gp, 7, none⟩ = some (.slice A 0 cc) ∧ w'.cell? ⟨gr, 0, none⟩ = some (.pointer (some ⟨V.gi, 0, none⟩))) (ds := [9]) ⟨c7, x0⟩ (fun hHeld => ?_); generalize hu0 : V1.drew = u0 at *; refine pq 0 ?_; refine pq 5 ?_; refine pq 6 ?_; refine pq 7 ?_; refine tk 8 hHeld ?_; refine rg1 1 (fun K hK => ?_); refine goes_ Tryz.func82 (by kernel_rfl) rfl #[_] (by rfl) rfl rfl (by (try simp only [MA, List.map_cons, List.map_nil]); first | done | rfl) ?_; refine (hT.out _ HD.out).mono ?_; rintro e w5 ⟨rfl, rfl⟩; refine ⟨_, rfl, ?_⟩; refine hK.out _ _ ⟨hHeld.1, hHeld.2⟩ (fun hHeld => ?_); clear hK K; refine nm ?_; refine pq 2 ?_; refine pq 3 ?_; refine tk 4 hHeld ?_; refine rg2 9 (fun K hK => ?_); refine goes_ Tryz.func123 (by kernel_rfl) rfl #[_, _] (by rfl) rfl rfl (by (try simp only [MA, List.map_cons, List.map_nil]); first | done | rfl) ?_; refine (hA.out _ (HD.out.drewK)).mono ?_; rintro e w6 ⟨rfl, hb6⟩; refine ⟨_, rfl, ?_⟩; refine hK.out _ _ ?_; clear hK K; refine nm ?_; refine pq 10 ?_; refine dn ?_; rw [← hu0] at hb6; have hB : Below V1.heap.size V1 w6 := ((BR V1.heap.size V1).drew.drew).trans hb6; replace hB := ZZ hB; go_wp2_with fail; go_ret; exact ⟨rfl, hB.out⟩
end
end
end Go.Proofs.YtoopeamoejmjeaaGreat.Tp
namespace Go.Proofs.YtoopeamoejmjeaaGreat.Tp
open RowKit YtoopeamoejmjeaaGreatW.PrintWords YtoopeamoejmjeaaGreatW.PrintLast YtoopeamoejmjeaaGreatW.PrintMore Tm
open Rd (z30 S30 mxp places pickPlace)
section
def prioAt (x : Int) : Int := if x = 0 then 1 else 2
def jobD (d : S48) : S30 := ⟨d.f0, prioAt d.f0, d.f1⟩
def evD (d : S48) : EK := ⟨1, d.f0, d.f1, 0⟩
def toldK (now : Nat) : List S48 := (told now (rel now 0 [50, 20] [] [])).map W3.due
def relK (P : KP) (l : List S48) : KP := { P with now := P.now + 1, jobs := P.jobs ++ l.map jobD, ev := P.ev ++ l.map evD }
theorem task_im0 {W : World} {v : Value} (h : ImageAt W v im0) {vs vb vt : Value} (hv : v = .agg #[O Y 1, O Y 1, O Y 1, O Y 0, vs, vb, vt]) : ∃ ad c, vt = .slice (some ad) 2 c ∧ ∀ i : Nat, i < 2 → W.cell? (ad.add (i * 7)) = some (O Y (prioAt (i : Int))) ∧ W.cell? ⟨(ad.add (i * 7)).block, (ad.add (i * 7)).off + 2, none⟩ = some (O Y (if (i : Int) = 0 then 50 else 20)) := by
 obtain ⟨vs', vb', vt', e, -, -, g3⟩ := h; rw [hv] at e; injection e with e
 have e2 := congrArg Array.toList e; simp only [List.cons.injEq, and_true, true_and] at e2; obtain ⟨-, -, -, -, rfl, rfl, rfl⟩ := e2; obtain ⟨A, c, hA, -, g⟩ := g3; obtain ⟨ad, rfl, -⟩ := g 0 _ rfl; refine ⟨ad, c, hA, fun i hi => ?_⟩; rcases (by omega : i = 0 ∨ i = 1) with rfl | rfl
 · obtain ⟨ad', e, _, _, _, q0, _, q2, -⟩ := g 0 _ rfl; injection e with e
   subst e; exact ⟨q0, q2⟩
 · obtain ⟨ad', e, _, _, _, q0, _, q2, -⟩ := g 1 _ rfl; injection e with e
   subst e; exact ⟨q0, q2⟩
def RelR (w0 : World) (F : KF) (P : KP) (M : List Asn) (l : List S48) (vi : Value) (wr : World) : Prop := ∃ (k : Nat) (V : KV), k ≤ l.length ∧ vi = O Y k ∧ Has w0 wr (KL F V (relK P (l.take k)) ++ M)
section
variable {w0 W : World} {F : KF} {V : KV} {P : KP} {M : List Asn} (H : Has w0 W (KL F V P ++ M)) (hF : KOk F w0)
include H hF
theorem krel_any {A : Option Addr} {c : Nat} {l : List S48} (hl : toldK P.now = l) (hleft : left P.now (rel P.now 0 [50, 20] [] []) = []) (hd : ∀ d ∈ l, d.f0 = 0 ∨ d.f0 = 1) (hn : P.now ≤ 1000) (hj : P.jobs.length + l.length ≤ 1000) (he : P.ev.length + l.length ≤ 1000) : Calls Tryz.prog 44 #[.pointer (some ⟨F.gp, 0, none⟩), .slice A 0 c] W fun e w' => e = .returned (.tuple #[]) ∧ ∃ V, Has w0 w' (KL F V (relK P l) ++ M) := by
 have hgood : Tm.Good [50, 20] P.now [] := ⟨by unfold Sorted; simp, by simp, by simp, by simp, by simp⟩
 have hT := tickH (ps := [50, 20]) (qs := []) H (k := 8) (j := 9) rfl rfl ⟨by simp, by simp, by simp⟩ hgood (by omega) (A := A) (c := c) ⟨by simp, fun i hi => by simp at hi⟩ (by simp); have c90 := PQ.tim_at (H.blk (k := 2) rfl) hF.hm; replace c90 := c90.trans (rfl : _ = some (Value.pointer (some ⟨F.gt, 0, none⟩))); replace hT := ZZ hT; replace hd := ZZ hd; replace hl := ZZ hl; replace hleft := ZZ hleft; replace hF := ZZ hF; replace hj := ZZ hj; replace he := ZZ he; clear H hgood; go_enter Tryz.func44, Tryz.ntmps44; go_wp2_with fail; refine hT.out.mono ?_; rintro e w2 ⟨A', c', l', hl', hc', rfl, H2⟩; obtain rfl : l' = l := hl'.trans hl.out; rw [hleft.out] at H2; have H3 : Has w0 w2 (KL F V (relK P []) ++ (M ++ [rowA 114 2 l'.length (.slice A' l'.length c') (l'.flatMap enc2)])) := by
  unfold relK; rw [List.map_nil, List.map_nil, List.append_nil, List.append_nil, ← List.append_assoc]; exact H2
 replace H3 := ZZ H3; clear hT H2 c90 hl' hleft hl; go_wp2_with fail; go_loopw [13] (fun vi wr => RelR w0 F P (M ++ [rowA 114 2 l'.length (.slice A' l'.length c') (l'.flatMap enc2)]) l' vi wr) (fun vi _ => l'.length - (intOf vi).toNat); case atStart => exact ⟨0, V, Nat.zero_le _, rfl, H3.out⟩
 case round =>
  obtain ⟨k, V', hk, rfl, HR⟩ := hrel; replace HR := ZZ HR; by_cases hdk : k < l'.length
  · have b1 : ((k : Nat) : Int) < (l'.length : Int) := by omega
    have b2 : decide (l'.length ≤ k) = false := decide_eq_false (by omega); have b5 : (k : Int) ≤ 1000 := by have := hj.out; omega
    obtain ⟨d, hx⟩ : ∃ d, l'[k]? = some d := ⟨_, GE hdk⟩
    have hrow : LRow wr 0 114 2 (.slice A' l'.length c') l'.length (l'.flatMap enc2) := HR.out.rowK (k := 14 + M.length) (by show (KL F V' (relK P (l'.take k)) ++ (M ++ [_]))[14 + M.length]? = _; rw [List.getElem?_append_right (by simp [KL]), show 14 + M.length - (KL F V' (relK P (l'.take k))).length = M.length by simp [KL]]; exact idx_new _ _); obtain ⟨b, rfl⟩ : ∃ b, A' = some ⟨b, 0, none⟩ := by
     rcases hrow.2 with ⟨h, h0⟩ | ⟨b, cap, cur, h, -⟩
     · omega
     · injection h with h; exact ⟨b, h⟩
    have e0 := LRow.cell hrow (k * 2) (O Y d.f0) (by have := flat_get l' k 0 (by omega); rw [Nat.add_zero] at this; rw [this, hx]; rfl); have e1 := LRow.cell hrow (k * 2 + 1) (O Y d.f1) (by rw [flat_get l' k 1 (by omega), hx]; rfl); rw [add_plain] at e0 e1; obtain ⟨i, hi, hif⟩ : ∃ i : Nat, i < 2 ∧ d.f0 = (i : Int) := by rcases hd.out d (LM hx) with h | h; exact ⟨0, by omega, h⟩; exact ⟨1, by omega, h⟩
    obtain ⟨df0, n⟩ := d; dsimp only at hif e0 e1; subst hif; have HB := HR.out.boxed 114 #[O Y (i : Int), O Y n]; have yb := heap_alloc_last wr (.cells #[O Y (i : Int), O Y n] 114); obtain ⟨gb, hgb⟩ : ∃ gb, wr.heap.size = gb := ⟨_, rfl⟩
    obtain ⟨Wb, eb⟩ : ∃ Wb, wr.alloc (.cells #[O Y (i : Int), O Y n] 114) = Wb := ⟨_, rfl⟩
    rw [hgb, eb] at HB yb; replace HB := HB.drewK; rw [List.append_assoc, List.append_assoc] at HB; have ybd := (BR Wb.heap.size Wb).drew.block gb (ltA yb) |>.trans yb
    have y0 := bk ybd 0 (O Y (i : Int)); have y1 := bk ybd 1 (O Y n); have c91 := (PQ.wts_at (HB.blk (k := 2) rfl) hF.out.hm).trans (rfl : _ = some (Value.pointer (some ⟨F.gs, 0, none⟩))); obtain ⟨ad, ct, hvt, htk⟩ := task_im0 (hF.out.hI.step HB.below) rfl; have c6 := PQ.vt_at (HB.blk (k := 2) rfl)
    rw [show (KQ F V').vt = F.vt from rfl, hvt] at c6; obtain ⟨hpr, -⟩ := htk i hi; have hPut := ZZ (putH HB (k := 0) rfl (i : Int) (prioAt (i : Int)) n (by unfold prioAt; split <;> omega) (by unfold prioAt; split <;> omega) (by have := hj.out; simp [relK]; omega)); have b6 : (i : Int) < 2 := by omega
    have b7 : decide (2 ≤ i) = false := decide_eq_false (by omega); generalize hpa : prioAt (i : Int) = pa at *; replace hpa := ZZ hpa; replace hx := ZZ hx; replace hi := ZZ hi; replace hk := ZZ hk; replace hdk := ZZ hdk; clear hrow HB yb ybd htk hvt; go_wp2_with fail; replace hgb := ZZ hgb; replace eb := ZZ eb; refine st 20 (S := fun w' => w'.cell? ⟨F.gp, 91, none⟩ = some (.pointer (some ⟨F.gs, 0, none⟩)) ∧ (w'.cell? ⟨gb, 0, none⟩ = some (O Y (i : Int)) ∧ w'.cell? ⟨gb, 1, none⟩ = some (O Y n)) ∧ w'.cell? ⟨F.gp, 6, none⟩ = some (.slice (some ad) 2 ct) ∧ w'.cell? (ad.add (i * 7)) = some (O Y (pa))) (ds := [19]) ⟨c91, ⟨y0, y1⟩, c6, hpr⟩ (fun hHeld => ?_); generalize Wb.drew = u0 at *; refine pq 0 ?_; refine pq 1 ?_; refine pq 2 ?_; refine pq 4 ?_; refine pq 6 ?_; refine pq 7 ?_; refine pq 8 ?_; refine pq 9 ?_; refine pq 11 ?_; refine pq 16 ?_; refine tk 3 hHeld ?_; refine tk 5 hHeld ?_; refine tk 10 hHeld ?_; refine tk 12 hHeld ?_; refine pq 13 ?_; refine pq 14 ?_; refine tk 15 hHeld ?_; refine tk 17 hHeld ?_; refine pq 18 ?_; refine rg2 19 (fun K hK => ?_); refine goes_ Tryz.func77 (by kernel_rfl) rfl #[.pointer (some ⟨F.gs, 0, none⟩), .agg #[O Y (i : Int), O Y pa, O Y n]] (by rfl) rfl rfl (by (try simp only [MA, List.map_cons, List.map_nil]); first | done | rfl) ?_; refine (hPut.out).mono ?_; rintro e w5 ⟨rfl, H5⟩; refine ⟨_, rfl, ?_⟩; refine hK.out _ _ ?_; clear hK K; refine nm ?_; refine dn ?_; have H6 : Has w0 w5 (KL F V' { relK P (l'.take k) with jobs := (relK P (l'.take k)).jobs ++ [⟨(i : Int), pa, n⟩] } ++ (M ++ ([rowA 114 2 l'.length (.slice (some ⟨b, 0, none⟩) l'.length c') (l'.flatMap enc2)] ++ [boxA gb 114 #[O Y (i : Int), O Y n]]))) := H5; obtain ⟨S6, hP6, -⟩ := H6.get (a := boxA gb 114 #[O Y (i : Int), O Y n]) (by simp); have y0' := bk hP6.2 0 (O Y (i : Int)); have y1' := bk hP6.2 1 (O Y n); have hSay := ZZ (ksay_any H6 hF.out 1 (i : Int) n 0 (by have := he.out; simp [relK]; omega)); clear H5 H6 hP6 hHeld y0 y1 c91 c6 hpr hPut e0 e1; go_wp2_with fail; refine hSay.out.mono ?_; rintro e w7 ⟨rfl, ve, H7⟩; have H8 : Has w0 w7 (KL F { V' with ve := ve } (relK P (l'.take (k + 1))) ++ (M ++ [rowA 114 2 l'.length (.slice (some ⟨b, 0, none⟩) l'.length c') (l'.flatMap enc2)])) := by
     have eP : relK P (l'.take (k + 1)) = { relK P (l'.take k) with jobs := (relK P (l'.take k)).jobs ++ [⟨(i : Int), pa, n⟩], ev := (relK P (l'.take k)).ev ++ [⟨1, (i : Int), n, 0⟩] } := by
      rw [take_next l' k _ hx.out, ← hpa.out]; simp [relK, jobD, evD]
     rw [eP]; exact H7.sub ((List.Sublist.refl _).append ((List.Sublist.refl M).append (List.sublist_append_left _ _)))
    replace H8 := ZZ H8; clear hSay H7 y0' y1'; go_wp2_with fail; go_roundw; case rel => exact ⟨k + 1, _, hdk.out, by go_num, H8.out⟩
    case measure => have := hdk.out; simp [intOf]; omega
  · have b1 : ¬ ((k : Nat) : Int) < (l'.length : Int) := by omega
    have hke : k = l'.length := by omega
    have H9 : Has w0 wr (KL F V' (relK P l') ++ M) := by
     have h := HR.out; rw [hke, List.take_length, ← List.append_assoc] at h; exact h.sub (List.sublist_append_left _ _)
    replace H9 := ZZ H9; clear hke hdk; go_wp2_with fail; go_end0; exact ⟨rfl, _, H9.out⟩
end
end
section
theorem info184K : (Tryz.prog.info? 184).map (fun i => (i.zero, i.size, i.bytes)) = some (some (.agg #[.pointer none, O Y 0, O Y 0, O Y 0, O Y 0, O Y 0, O Y 0, O Y 0, O Y 0, O Y 0, O Y 0, O Y 0, O Y 0, O Y 0, O Y 0, O Y 0, O Y 0, O Y 0, O Y 0, O Y 0, O Y 0, O Y 0, .slice none 0 0]), 23, 200) := by kernel_rfl
theorem enc_one (r : RK) : ∀ u ∈ r.enc, u.oneCell' = true := by
 intro u hu; simp only [RK.enc, List.mem_cons, List.not_mem_nil, or_false] at hu; repeat' (rcases hu with rfl | hu <;> try rfl)
theorem hlast_setr {w0 W : World} {A M : List Asn} {g : Nat} {t : TypeId} {cs : Array Value} (h : Has w0 W (A ++ (M ++ [boxA g t cs]))) (cs' : Array Value) : Has w0 (W.setRow g cs') (A ++ (M ++ [boxA g t cs'])) := by
 rw [← List.append_assoc] at h ⊢; have h1 := h.setr (idx_new _ _) cs'; rwa [set_last _ _ _ _ rfl] at h1
theorem hlast_cut {w0 W : World} {A M N : List Asn} (h : Has w0 W (A ++ (M ++ N))) : Has w0 W (A ++ M) := by
 rw [← List.append_assoc] at h; exact h.sub (List.sublist_append_left _ _)
theorem hlast_cell {w0 W : World} {A M : List Asn} {g : Nat} {t : TypeId} {cs : Array Value} (h : Has w0 W (A ++ (M ++ [boxA g t cs]))) (k : Nat) : W.cell? ⟨g, k, none⟩ = cs[k]? := by
 rw [← List.append_assoc] at h; exact blk_cell (h.blk (idx_new _ _)) k
def NewR (j : S30) (now : Int) : RK := ⟨j, now, -1, 0, 0, 1, 0⟩
def BegP (w0 : World) (F : KF) (P2 : KP) (M : List Asn) (j : S30) (now : Int) (b : Bool) (e : Ending) (w' : World) : Prop := e = .returned (.tuple #[]) ∧ (b = false → ∃ V, Has w0 w' (KL F V P2 ++ M)) ∧ (b = true → ∃ V, Has w0 w' (KL F V { P2 with run := some (NewR j now), ev := P2.ev ++ [⟨2, j.f0, j.f2, 0⟩] } ++ M))
section
variable {w0 W : World} {F : KF} {V : KV} {P P2 : KP} {M : List Asn} (H : Has w0 W (KL F V P ++ M)) (hF : KOk F w0) {a : Int} {j : S30} {b : Bool}
include H hF
theorem kbegin_any (now : Int) (hact : ∀ w N, Has w0 w (KL F V P ++ N) → Calls Tryz.prog 80 #[.pointer (some ⟨F.gp, 0, none⟩)] w fun e w' => e = .returned (O Y a) ∧ Has w0 w' (KL F V P ++ N) ∧ Below w.heap.size w w') (htake : ∀ w N, Has w0 w (KL F V P ++ N) → Calls Tryz.prog 79 #[.pointer (some ⟨F.gs, 0, none⟩), O Y a, O Y 0] w fun e w' => e = .returned (.tuple #[.agg #[O Y j.f0, O Y j.f1, O Y j.f2], .bool b]) ∧ Has w0 w' (KL F V P2 ++ N) ∧ True) (hb : b = true → P2.run = none ∧ (j.f0 = 0 ∨ j.f0 = 1) ∧ (if j.f0 = 0 then P2.a0 else P2.a1).on = false ∧ P2.ev.length ≤ 1000) : Calls Tryz.prog 47 #[.pointer (some ⟨F.gp, 0, none⟩), O Y 0, O Y now] W (BegP w0 F P2 M j now b) := by
 have c91 := (PQ.wts_at (H.drewK.blk (k := 2) rfl) hF.hm).trans (rfl : _ = some (Value.pointer (some ⟨F.gs, 0, none⟩))); have HC := ZZ H.drewK; have hAct := ZZ hact; have hTake := ZZ htake; replace hF := ZZ hF; replace hb := ZZ hb; clear H hact htake; go_enter Tryz.func47, Tryz.ntmps47; go_wp2_with fail; refine st 14 (S := fun w' => w'.cell? ⟨F.gp, 91, none⟩ = some (.pointer (some ⟨F.gs, 0, none⟩))) (ds := [12]) c91 (fun hHeld => ?_); generalize W.drew = u0 at *; refine pq 0 ?_; refine pq 1 ?_; refine pq 2 ?_; refine pq 4 ?_; refine pq 6 ?_; refine tk 3 hHeld ?_; refine join_ (σ := Nat) 2 #[true, true, true, true, true, true, true, true, true, true, true, true, false, false] (fun s => [(16, O Y a), (18, .tuple #[.agg #[O Y j.f0, O Y j.f1, O Y j.f2], .bool b]), (10, .tuple #[.agg #[O Y j.f0, O Y j.f1, O Y j.f2], .bool b]), (19, .agg #[O Y j.f0, O Y j.f1, O Y j.f2]), (20, .bool b), (6, .pointer (some ⟨s, 0, none⟩))]) (fun s w' => Has w0 w' (KL F V P2 ++ (M ++ [boxA s 171 #[O Y 0, O Y 0, O Y 0]]))) ?_ (fun hJ => ?_); rotate_left
 · skip; refine two_ (i := 5) (j := 11) (Ni := some 16) (Nj := some 6) #[true, true, true, true, true, true, true, false, false, false, false, false, false, false] #[true, true, true, true, true, false, true, false, false, false, false, true, false, false] rfl rfl rfl rfl (by kernel_rfl) (by decide) (by decide) (fun K hK => ?_) (fun K hK => ?_)
   · skip; refine goes_ Tryz.func80 (by kernel_rfl) rfl #[.pointer (some ⟨F.gp, 0, none⟩)] (by rfl) rfl rfl (by (try simp only [MA, List.map_cons, List.map_nil]); first | done | rfl) ?_; refine (hAct.out _ _ HC.out).mono ?_; rintro e w5 ⟨rfl, H5, b5⟩; refine ⟨_, rfl, ?_⟩; replace HC := ZZ H5; clear H5; refine hK.out _ _ (cell_keep b5 (NR _) hHeld) (fun hHeld => ?_); clear hK K; refine nm ?_; clear b5; refine two_ (i := 7) (j := 11) (Ni := some 18) (Nj := some 6) #[true, true, true, true, true, true, true, true, false, false, false, false, false, false] #[true, true, true, true, true, true, true, false, false, false, false, true, false, false] rfl rfl rfl rfl (by kernel_rfl) (by decide) (by decide) (fun K hK => ?_) (fun K hK => ?_)
     · skip; refine goes_ Tryz.func79 (by kernel_rfl) rfl #[.pointer (some ⟨F.gs, 0, none⟩), O Y a, O Y 0] (by rfl) rfl rfl (by (try simp only [MA, List.map_cons, List.map_nil]); first | done | rfl) ?_; refine (hTake.out _ _ HC.out).mono ?_; rintro e w7 ⟨rfl, H7, k7⟩; refine ⟨_, rfl, ?_⟩; replace HC := ZZ H7; clear H7; refine hK.out _ _ ((PQ.wts_at (HC.out.blk (k := 2) rfl) hF.out.hm).trans rfl) (fun hHeld => ?_); clear hK K; refine nm ?_; clear k7; refine pq 8 ?_; refine pq 9 ?_; refine pq 10 ?_; refine rg1 11 (fun K hK => ?_); refine value_ (w1 := ?_) (v := ?_) (by rfl) rfl ?_ ?_; rotate_left 2
       · go_simp; constructor
         · rfl
         · rfl
       have hG := HC.out.boxed 171 #[O Y 0, O Y 0, O Y 0]; rw [List.append_assoc] at hG; replace HC := ZZ hG; clear hG; refine hK.out _ _ ((PQ.wts_at (HC.out.blk (k := 2) rfl) hF.out.hm).trans rfl) (fun hHeld => ?_); clear hK K; refine nm ?_; have hq := hJ w7.heap.size _ HC.out; simp only [putAll, Act.put, List.setIfInBounds_toArray, List.set_cons_zero, List.set_cons_succ] at hq; exact hq
     · skip; refine value_ (w1 := ?_) (v := ?_) (by rfl) rfl ?_ ?_; rotate_left 2
       · go_simp; constructor
         · rfl
         · rfl
       have hG := HC.out.boxed 171 #[O Y 0, O Y 0, O Y 0]; rw [List.append_assoc] at hG; replace HC := ZZ hG; clear hG; refine hK.out _ _ ((PQ.wts_at (HC.out.blk (k := 2) rfl) hF.out.hm).trans rfl) (fun hHeld => ?_); clear hK K; refine nm ?_; refine rg1 7 (fun K hK => ?_); refine goes_ Tryz.func79 (by kernel_rfl) rfl #[.pointer (some ⟨F.gs, 0, none⟩), O Y a, O Y 0] (by rfl) rfl rfl (by (try simp only [MA, List.map_cons, List.map_nil]); first | done | rfl) ?_; refine (hTake.out _ _ HC.out).mono ?_; rintro e w7 ⟨rfl, H7, k7⟩; refine ⟨_, rfl, ?_⟩; replace HC := ZZ H7; clear H7; refine hK.out _ _ ((PQ.wts_at (HC.out.blk (k := 2) rfl) hF.out.hm).trans rfl) (fun hHeld => ?_); clear hK K; refine nm ?_; clear k7; refine pq 8 ?_; refine pq 9 ?_; refine pq 10 ?_; have hq := hJ w5.heap.size _ HC.out; simp only [putAll, Act.put, List.setIfInBounds_toArray, List.set_cons_zero, List.set_cons_succ] at hq; exact hq
   · skip; refine value_ (w1 := ?_) (v := ?_) (by rfl) rfl ?_ ?_; rotate_left 2
     · go_simp; constructor
       · rfl
       · rfl
     have hG := HC.out.boxed 171 #[O Y 0, O Y 0, O Y 0]; rw [List.append_assoc] at hG; replace HC := ZZ hG; clear hG; refine hK.out _ _ ((PQ.wts_at (HC.out.blk (k := 2) rfl) hF.out.hm).trans rfl) (fun hHeld => ?_); clear hK K; refine nm ?_; refine rg1 5 (fun K hK => ?_); refine goes_ Tryz.func80 (by kernel_rfl) rfl #[.pointer (some ⟨F.gp, 0, none⟩)] (by rfl) rfl rfl (by (try simp only [MA, List.map_cons, List.map_nil]); first | done | rfl) ?_; refine (hAct.out _ _ HC.out).mono ?_; rintro e w5 ⟨rfl, H5, b5⟩; refine ⟨_, rfl, ?_⟩; replace HC := ZZ H5; clear H5; refine hK.out _ _ (cell_keep b5 (NR _) hHeld) (fun hHeld => ?_); clear hK K; refine nm ?_; clear b5; refine rg1 7 (fun K hK => ?_); refine goes_ Tryz.func79 (by kernel_rfl) rfl #[.pointer (some ⟨F.gs, 0, none⟩), O Y a, O Y 0] (by rfl) rfl rfl (by (try simp only [MA, List.map_cons, List.map_nil]); first | done | rfl) ?_; refine (hTake.out _ _ HC.out).mono ?_; rintro e w7 ⟨rfl, H7, k7⟩; refine ⟨_, rfl, ?_⟩; replace HC := ZZ H7; clear H7; refine hK.out _ _ ((PQ.wts_at (HC.out.blk (k := 2) rfl) hF.out.hm).trans rfl) (fun hHeld => ?_); clear hK K; refine nm ?_; clear k7; refine pq 8 ?_; refine pq 9 ?_; refine pq 10 ?_; have hq := hJ u0.heap.size _ HC.out; simp only [putAll, Act.put, List.setIfInBounds_toArray, List.set_cons_zero, List.set_cons_succ] at hq; exact hq
 rintro gb u9 F9; obtain ⟨Sg, hgb, -⟩ := F9.get (a := boxA gb 171 #[O Y 0, O Y 0, O Y 0]) (by simp); refine norm_ (a' := ?_) ?_ ?_; rotate_left
 · show putAll _ _ = _; simp only [putAll, Act.put, List.setIfInBounds_toArray, List.set_cons_zero, List.set_cons_succ]; rfl
 refine rg2 12 (fun K hK => ?_); refine step_store (by rfl) 171 (.tmp 6) (.tmp 19) rfl rfl gb #[O Y j.f0, O Y j.f1, O Y j.f2] rfl rfl 171 _ hgb.2 (by kernel_rfl) rfl (by kernel_rfl) ?_; refine hK.out _ _ ?_; clear hK K; refine pq 13 ?_; refine dn ?_; have H9 := hlast_setr F9 #[O Y j.f0, O Y j.f1, O Y j.f2]; obtain ⟨W9, e9⟩ : ∃ W9, u9.setRow gb #[O Y j.f0, O Y j.f1, O Y j.f2] = W9 := ⟨_, rfl⟩
 rw [e9] at H9; rw [e9]; replace H9 := ZZ H9; clear F9 hgb HC hHeld c91 e9; cases b
 · go_wp2_with fail; refine bodyPost_ret (results_none rfl _ _ _) rfl ?_; exact ⟨rfl, fun _ => ⟨V, hlast_cut H9.out⟩, fun h => by cases h⟩
 · obtain ⟨hrun, hij, hon, hel⟩ := hb.out rfl; obtain ⟨i, hi, hif⟩ : ∃ i : Nat, i < 2 ∧ j.f0 = (i : Int) := by rcases hij with h | h; exact ⟨0, by omega, h⟩; exact ⟨1, by omega, h⟩
   obtain ⟨jf0, jf1, jf2⟩ := j; dsimp only at hif hon H9; subst hif; have HD := H9.out.drewK; have x0 := (hlast_cell HD 0).trans (rfl : _ = some (O Y (i : Int))); have x1 := (hlast_cell HD 1).trans (rfl : _ = some (O Y jf1)); have x2 := (hlast_cell HD 2).trans (rfl : _ = some (O Y jf2)); have hP := HD.blk (k := 2) rfl; have s0 := (PQ.sw_at hP).trans (rfl : _ = some (O Y 1)); have s1 := (PQ.la_at hP).trans (rfl : _ = some (O Y 1)); have s2 := (PQ.co_at hP).trans (rfl : _ = some (O Y 1)); have hrow := HD.rowK (k := 3) rfl; obtain ⟨gM, cM, hvm⟩ : ∃ gM cM, F.vm = .slice (some ⟨gM, 0, none⟩) 2 cM := by
    rcases hrow.2 with ⟨_, h⟩ | ⟨gM, cap, cur, h, -⟩
    · cases h
    · exact ⟨gM, cap, h⟩
   have c89 := PQ.mach_at hP hF.out.hm; rw [show (KQ F V).mach = F.vm from rfl, hvm] at c89; rw [hvm] at hrow; have hmp := LRow.cell hrow i (.pointer (some ⟨(NewR ⟨(i : Int), jf1, jf2⟩ now).gm F, 0, none⟩)) (by rcases (by omega : i = 0 ∨ i = 1) with rfl | rfl <;> rfl); rw [add_plain] at hmp; have b1 : ((i : Nat) : Int) < 2 := by omega
   have b2 : decide (2 ≤ i) = false := decide_eq_false (by omega); have hNew : ∀ w, Has w0 w (KL F V P2 ++ (M ++ [boxA gb 171 #[O Y (i : Int), O Y jf1, O Y jf2]])) → Calls Tryz.prog 81 #[.agg #[O Y (i : Int), O Y jf1, O Y jf2], .pointer (some ⟨(NewR ⟨(i : Int), jf1, jf2⟩ now).gm F, 0, none⟩), .agg #[O Y 1, O Y 1, O Y 1]] w fun e w' => ∃ gi, e = .returned (.tuple #[.pointer (some ⟨gi, 0, none⟩), O Y 0]) ∧ Has w0 w' ((KL F V P2 ++ (M ++ [boxA gb 171 #[O Y (i : Int), O Y jf1, O Y jf2]])) ++ [instA gi ⟨(i : Int), jf1, jf2⟩ ((NewR ⟨(i : Int), jf1, jf2⟩ now).gm F) 0 1 0]) := by
    intro w HH; rcases (by omega : i = 0 ∨ i = 1) with rfl | rfl
    · have e0 : P2.a0 = ⟨false, P2.a0.at_, P2.a0.ms⟩ := by rw [← show P2.a0.on = false from hon]
      exact inew_any (k := 4) (kc := 5) (l := [⟨25, 0, 0⟩]) (ma := P2.a0.at_) (ms := P2.a0.ms) HH (by show some (boxA F.g0 146 (P2.a0.cells F.c0 F.m0)) = _; rw [e0]; rfl) rfl (by decide) hF.out.h0 ⟨((0 : Nat) : Int), jf1, jf2⟩
    · have e0 : P2.a1 = ⟨false, P2.a1.at_, P2.a1.ms⟩ := by rw [← show P2.a1.on = false from hon]
      exact inew_any (k := 6) (kc := 7) (l := [⟨25, 0, 0⟩]) (ma := P2.a1.at_) (ms := P2.a1.ms) HH (by show some (boxA F.g1 146 (P2.a1.cells F.c1 F.m1)) = _; rw [e0]; rfl) rfl (by decide) hF.out.h1 ⟨((1 : Nat) : Int), jf1, jf2⟩
   replace hNew := ZZ hNew; replace HD := ZZ HD; replace hvm := ZZ hvm; replace hi := ZZ hi; replace hrun := ZZ hrun; replace hel := ZZ hel; clear hP hrow hon hij H9; obtain ⟨gm, hgm⟩ : ∃ gm, (NewR ⟨(i : Int), jf1, jf2⟩ now).gm F = gm := ⟨_, rfl⟩
   rw [hgm] at hNew hmp; replace hgm := ZZ hgm; go_wp2_with fail; refine st 31 (S := fun w' => (w'.cell? ⟨gb, 0, none⟩ = some (O Y (i : Int)) ∧ w'.cell? ⟨gb, 1, none⟩ = some (O Y jf1) ∧ w'.cell? ⟨gb, 2, none⟩ = some (O Y jf2)) ∧ (w'.cell? ⟨F.gp, 0, none⟩ = some (O Y 1) ∧ w'.cell? ⟨F.gp, 1, none⟩ = some (O Y 1) ∧ w'.cell? ⟨F.gp, 2, none⟩ = some (O Y 1)) ∧ w'.cell? ⟨F.gp, 89, none⟩ = some (.slice (some ⟨gM, 0, none⟩) 2 cM) ∧ w'.cell? ⟨gM, i, none⟩ = some (.pointer (some ⟨gm, 0, none⟩))) (ds := [25]) ⟨⟨x0, x1, x2⟩, ⟨s0, s1, s2⟩, c89, hmp⟩ (fun hHeld => ?_); generalize W9.drew = u0 at *; refine pq 1 ?_; refine pq 2 ?_; refine pq 3 ?_; refine pq 5 ?_; refine pq 9 ?_; refine pq 10 ?_; refine pq 11 ?_; refine pq 12 ?_; refine pq 14 ?_; refine pq 15 ?_; refine pq 16 ?_; refine pq 17 ?_; refine pq 19 ?_; refine pq 20 ?_; refine pq 21 ?_; refine pq 22 ?_; refine tk 0 hHeld ?_ (hy := by rintro w' ⟨⟨p0, p1, p2⟩, ⟨q0, q1, q2⟩, r0, r1⟩; go_simp; first | with_reducible rfl | rfl); refine tk 4 hHeld ?_ (hy := by rintro w' ⟨⟨p0, p1, p2⟩, ⟨q0, q1, q2⟩, r0, r1⟩; go_simp; first | with_reducible rfl | rfl); refine tk 6 hHeld ?_ (hy := by rintro w' ⟨⟨p0, p1, p2⟩, ⟨q0, q1, q2⟩, r0, r1⟩; go_simp; first | with_reducible rfl | rfl); refine pq 7 ?_; refine tk 8 hHeld ?_ (hy := by rintro w' ⟨⟨p0, p1, p2⟩, ⟨q0, q1, q2⟩, r0, r1⟩; go_simp; first | with_reducible rfl | rfl); refine tk 13 hHeld ?_ (hy := by rintro w' ⟨⟨p0, p1, p2⟩, ⟨q0, q1, q2⟩, r0, r1⟩; go_simp; first | with_reducible rfl | rfl); refine tk 18 hHeld ?_ (hy := by rintro w' ⟨⟨p0, p1, p2⟩, ⟨q0, q1, q2⟩, r0, r1⟩; go_simp; first | with_reducible rfl | rfl); refine tk 23 hHeld ?_ (hy := by rintro w' ⟨⟨p0, p1, p2⟩, ⟨q0, q1, q2⟩, r0, r1⟩; go_simp; first | with_reducible rfl | rfl); refine pq 24 ?_; refine rg2 25 (fun K hK => ?_); refine goes_ Tryz.func81 (by kernel_rfl) rfl #[.agg #[O Y (i : Int), O Y jf1, O Y jf2], .pointer (some ⟨gm, 0, none⟩), .agg #[O Y 1, O Y 1, O Y 1]] (by rfl) rfl rfl (by (try simp only [MA, List.map_cons, List.map_nil]); first | done | rfl) ?_; refine (hNew.out _ HD.out).mono ?_; rintro e w5 ⟨gi, rfl, H5⟩; refine ⟨_, rfl, ?_⟩; refine hK.out _ _ ?_; clear hK K; refine nm ?_; refine pq 26 ?_; refine pq 27 ?_; refine pq 28 ?_; refine pq 29 ?_; refine pq 30 ?_; refine dn ?_; have H6 : Has w0 w5 ([setA F.gs P2.jobs, rowA 3 1 0 F.vo [], boxA F.gp 89 (KQ F V).cs, rowA 90 1 2 F.vm [.pointer (some ⟨F.g0, 0, none⟩), .pointer (some ⟨F.g1, 0, none⟩)], boxA F.g0 146 (P2.a0.cells F.c0 F.m0), rowA 127 3 1 F.c0 [O Y 25, O Y 0, O Y 0], boxA F.g1 146 (P2.a1.cells F.c1 F.m1), rowA 127 3 1 F.c1 [O Y 25, O Y 0, O Y 0], timA F.gt (.slice (some ⟨F.pb, 0, none⟩) 2 F.pc) P2.now [], intA (.slice (some ⟨F.pb, 0, none⟩) 2 F.pc) [50, 20], rowA 184 23 0 V.vr [], rowA 182 22 P2.done.length V.vd (P2.done.flatMap RK.enc), rowA 64 4 P2.ev.length V.ve (P2.ev.flatMap EK.enc), instA gi ⟨(i : Int), jf1, jf2⟩ gm 0 1 0] ++ (M ++ [boxA gb 171 #[O Y (i : Int), O Y jf1, O Y jf2]])) := by
    have h := place (k := 13) H5 (by show some (runA F V P2.run) = _; rw [hrun.out]; rfl); unfold KL at h; rw [hrun.out] at h; exact h
   have hd6 := H6.drewK; have n0 := (PQ.runs_at (hd6.blk (k := 2) rfl) hF.out.hm)
   obtain ⟨An, cn, hvn, -⟩ := LRow.slice (hd6.rowK (k := 10) rfl); rw [show (KQ F V).runs = V.vr from rfl, hvn] at n0; have y0 := (hlast_cell hd6 0).trans (rfl : _ = some (O Y (i : Int))); have y2 := (hlast_cell hd6 2).trans (rfl : _ = some (O Y jf2)); have hob : V.vr.ownBlock = (Value.slice An 0 cn).ownBlock := by rw [hvn]
   replace hob := ZZ hob; replace hvn := ZZ hvn; replace hd6 := ZZ hd6; clear H5 H6 x0 x1 x2 s0 s1 s2 c89 hmp hHeld hNew HD; go_wp2_with fail; refine st 18 (S := fun w' => w'.cell? ⟨F.gp, 92, none⟩ = some (.slice An 0 cn) ∧ w'.cell? ⟨gb, 0, none⟩ = some (O Y (i : Int)) ∧ w'.cell? ⟨gb, 2, none⟩ = some (O Y jf2)) (ds := [14, 17]) ⟨n0, y0, y2⟩ (fun hHeld => ?_); generalize w5.drew = u1 at *; refine pq 0 ?_; refine pq 1 ?_; refine pq 2 ?_; refine pq 3 ?_; refine pq 5 ?_; refine pq 6 ?_; refine pq 8 ?_; refine pq 10 ?_; refine tk 4 hHeld ?_; refine tk 7 hHeld ?_; refine tk 9 hHeld ?_; refine pq 11 ?_; refine pq 12 ?_; refine rg1 13 (fun K hK => ?_); refine value_ (w1 := ?_) (v := ?_) (by rfl) rfl ?_ ?_; rotate_left 2
   · go_simp; constructor
     · rfl
     · rfl
   have bn := (BR u1.heap.size u1).alloc (NR _) (.cells #[.pointer (some ⟨gi, 0, none⟩), O Y (i : Int), O Y jf2, O Y now, O Y (-1), O Y 0, O Y 0, O Y 0, O Y 0, O Y 0, O Y 0, O Y 0, O Y 0, O Y 0, O Y 0, O Y 0, O Y 0, O Y 0, O Y 0, O Y 0, O Y 0, O Y 0, .slice none 0 0] 184); have H7 := hd6.out.new 184 #[.pointer (some ⟨gi, 0, none⟩), O Y (i : Int), O Y jf2, O Y now, O Y (-1), O Y 0, O Y 0, O Y 0, O Y 0, O Y 0, O Y 0, O Y 0, O Y 0, O Y 0, O Y 0, O Y 0, O Y 0, O Y 0, O Y 0, O Y 0, O Y 0, O Y 0, .slice none 0 0]; have r7 := H7.rowK (k := 10) rfl; rw [hvn.out] at r7; refine hK.out _ _ ⟨cell_keep bn (NR _) hHeld.1, cell_keep bn (NR _) hHeld.2.1, cell_keep bn (NR _) hHeld.2.2⟩ (fun hHeld => ?_); clear hK K; refine nm ?_; refine rg2 14 (fun K hK => ?_); refine step_append_loose _ 0 (by rfl) (.tmp 56) (.tmp 65) 86 184 _ 23 200 rfl Tryz.underlying86 info184K rfl (by decide) (by decide) (.slice An 0 cn) 0 [] (.pointer (some ⟨gi, 0, none⟩) :: (NewR ⟨(i : Int), jf1, jf2⟩ now).enc) (some ⟨u1.heap.size, 0, none⟩) 1 1 rfl rfl rfl (fun u hu => by rcases List.mem_cons.1 hu with rfl | hu; rfl; exact enc_one _ u hu) r7 (.inr ⟨_, rfl, World.news_of_block (heap_alloc_new u1 _)⟩) (Nat.zero_le _) (by decide) ?_; intro v1 w7 hrow hg hat
   obtain ⟨A1, c1, rfl, -⟩ := LRow.slice hrow; have H7' := Has.growK H7 (k := 10) rfl (by rw [hob.out]; exact hg) hrow (by rw [hob.out]; rcases hat with h | h; exact .inl h; exact .inr ⟨_, h, by simp⟩); have c92 := (PQ.runs_at (H7'.blk (k := 2) rfl) hF.out.hm).trans (rfl : _ = some V.vr); have f92 := blk_frozen (H7'.blk (k := 2) rfl) 92; have H8 := hset_runs H7' (k := 2) rfl hF.out.hm (.slice A1 1 c1); refine hK.out _ _ ?_; clear hK K; refine nm ?_; refine pq 15 ?_; refine pq 16 ?_; refine rg2 17 (fun K hK => ?_); refine skip_ (w1 := ?_) (by rfl) rfl ?_ ?_; rotate_left
   · go_simp; rfl
   refine hK.out _ _ ?_; clear hK K; refine dn ?_; have hL7 : Has w0 (w7.setCell ⟨F.gp, 92, none⟩ (.slice A1 1 c1)) (KL F { V with vr := .slice A1 1 c1, gi := gi } { P2 with run := some (NewR ⟨(i : Int), jf1, jf2⟩ now) } ++ (M ++ [boxA gb 171 #[O Y (i : Int), O Y jf1, O Y jf2]])) := by
    have h := H8; rw [← hgm.out] at h; exact h
   have z0 := (hlast_cell hL7 0).trans (rfl : _ = some (O Y (i : Int))); have z2 := (hlast_cell hL7 2).trans (rfl : _ = some (O Y jf2)); have hSay := ZZ (ksay_any hL7 hF.out 2 (i : Int) jf2 0 hel.out); clear hL7 H8 H7 y0 y2 n0 hHeld; go_wp2_with fail; refine hSay.out.mono ?_; rintro e w8 ⟨rfl, ve, H10⟩; replace H10 := ZZ (hlast_cut H10); clear z0 z2 hSay; go_wp2_with fail; go_end0; exact ⟨rfl, (fun h => by cases h), fun _ => ⟨_, H10.out⟩⟩
end
end
section
section
variable {w0 W : World} {F : KF} {V : KV} {P : KP} {M : List Asn} (H : Has w0 W (KL F V P ++ M)) (hF : KOk F w0) {r : RK} (hr : P.run = some r) {gr cc : Nat} (hv : V.vr = .slice (some ⟨gr, 0, none⟩) 1 cc)
include H hr hv
theorem krow_at (i : Nat) (u : Value) (hu : (Value.pointer (some ⟨V.gi, 0, none⟩) :: r.enc)[i]? = some u) : W.cell? ⟨gr, i, none⟩ = some u ∧ W.frozen? ⟨gr, i, none⟩ = false := by
 obtain ⟨gr', cc', h1, h2⟩ := krow H hr; rw [hv] at h1; injection h1 with h1 _ h3
 injection h1 with h1
 injection h1 with h1
 subst h1; exact h2 i u hu
omit H hr hv in
theorem krunA (hr : P.run = some r) : (KL F V P ++ M)[13]? = some (instA V.gi r.j (r.gm F) r.ph r.lf r.us) := by
 show some (runA F V P.run) = _; rw [hr]; rfl
include hF
theorem kcommit_any (hph : 4 ≤ r.ph) (hel : P.ev.length ≤ 1000) : Calls Tryz.prog 84 #[.pointer (some ⟨F.gp, 0, none⟩), .pointer (some ⟨gr, 0, none⟩)] W fun e w' => e = .returned (.tuple #[]) ∧ ∃ ve, Has w0 w' (KL F { V with ve := ve } { P with ev := P.ev ++ [⟨7, r.j.f0, 0, 0⟩] } ++ M) := by
 have x0 := (krow_at H hr hv 0 _ rfl).1; have x1 := (krow_at H hr hv 1 _ rfl).1; obtain ⟨km, vc, vm, m, hkm⟩ := kmach F V P M r; have hO := ZZ (iouts_any H (krunA hr) hkm hph); have hS := ZZ (ksay_any H hF 7 r.j.f0 0 0 hel); clear H hF hr hv hph hel hkm; go_enter Tryz.func84, Tryz.ntmps84; go_wp2_with fail; refine hO.out.mono ?_; rintro e V1 ⟨rfl, rfl⟩; go_wp2_with fail; go_loop [12] (fun vi => vi = O Y 0) (fun _ => 0); case atStart => rfl
 case round =>
  obtain rfl := hrel; go_wp2_with fail; refine hS.out.mono ?_; rintro e w8 ⟨rfl, ve, H10⟩; replace H10 := ZZ H10; clear x0 x1; go_wp2_with fail; go_end0; exact ⟨rfl, _, H10.out⟩
end
end
section
theorem info182K : (Tryz.prog.info? 182).map (fun i => (i.zero, i.size, i.bytes)) = some (some (.agg #[O Y 0, O Y 0, O Y 0, O Y 0, O Y 0, O Y 0, O Y 0, O Y 0, O Y 0, O Y 0, O Y 0, O Y 0, O Y 0, O Y 0, O Y 0, O Y 0, O Y 0, O Y 0, O Y 0, O Y 0, O Y 0, .slice none 0 0]), 22, 192) := by kernel_rfl
def dropR (P : KP) (r : RK) (now : Int) : KP := { P with run := none, done := P.done ++ [{ r with ls := now }], ev := P.ev ++ [⟨8, r.j.f0, r.j.f2, now + 1 - r.j.f2⟩] }
theorem seg_self {cur : Array Value} {xs cs : List Value} {n off : Nat} (h : cur.toList.take n = xs) (hx : (xs.drop off).take cs.length = cs) (hn : off + cs.length ≤ n) : (cur.toList.take off ++ cs ++ cur.toList.drop (off + cs.length)).toArray = cur := by
 have h1 : (cur.toList.drop off).take cs.length = cs := by
  rw [← hx, ← h, List.drop_take, List.take_take, List.length_take]; congr 1; have := congrArg List.length hx; rw [List.length_take, List.length_drop, ← h, List.length_take] at this; simp only [List.length_drop, List.length_take] at this ⊢; omega
 conv => lhs; rw [← h1]
 apply Array.toList_inj.1; have h2 : (cur.toList.drop off).take cs.length ++ cur.toList.drop (off + cs.length) = cur.toList.drop off := by rw [← List.drop_drop, List.take_append_drop]
 rw [show ((cur.toList.drop off).take cs.length).length = cs.length by rw [h1]]; simp only [List.append_assoc, h2, List.take_append_drop]
theorem row_same {w0 W : World} {F : KF} {V : KV} {P : KP} {M : List Asn} (H : Has w0 W (KL F V P ++ M)) {r : RK} (hr : P.run = some r) {gr cc : Nat} (hv : V.vr = .slice (some ⟨gr, 0, none⟩) 1 cc) : ∃ cur, W.heap[gr]? = some (.cells cur 184 (0, 0)) ∧ (cur.toList.take 6 ++ zer16.toList ++ cur.toList.drop (6 + zer16.toList.length)).toArray = cur ∧ 6 + zer16.toList.length ≤ cur.size := by
 have hrow := H.rowK (k := 10) rfl; rw [hr] at hrow; rcases hrow.2 with ⟨h, _⟩ | ⟨g, cap, cur, h, -, hb, h1, -, h2, h3⟩
 · rw [hv] at h; cases h
 · rw [hv] at h; injection h with h _ _
   injection h with h
   injection h with h
   subst h; have h4 : cur.toList.take 23 = .pointer (some ⟨V.gi, 0, none⟩) :: r.enc := h3; exact ⟨cur, hb, seg_self h4 rfl (by decide), by have : (1 : Nat) ≤ cap := h1; show 6 + 16 ≤ _; omega⟩
theorem flat_len (l : List RK) : (l.flatMap RK.enc).length = l.length * 22 := by
 induction l with
 | nil => rfl
 | cons r l ih =>
  rw [List.flatMap_cons, List.length_append, ih, List.length_cons, show r.enc.length = 22 from rfl]; omega
theorem last_cell {d : List RK} {n k : Nat} (hn : d.length = n) (hk : n = k + 1) : ∃ q, d.getLast? = some q ∧ (d.flatMap RK.enc)[k * 22 + 3]? = some (O Y q.pt) := by
 have h0 : d ≠ [] := by intro h; subst h; simp at hn; omega
 obtain ⟨d', q, rfl⟩ : ∃ d' q, d = d' ++ [q] := ⟨_, _, (List.dropLast_concat_getLast h0).symm⟩
 refine ⟨q, List.getLast?_concat, ?_⟩; have h1 : d'.length = k := by simp at hn; omega
 rw [List.flatMap_append, List.getElem?_append_right (by rw [flat_len]; omega), flat_len, h1, Nat.add_sub_cancel_left]; rfl
theorem exec_load_seg {oi : Oper} (ev : Operand → Value) (ty : TypeId) (x : Operand) (ho : oi.op = .load ty x) (b o : Nat) {w : World} (hx : ev x = .pointer (some ⟨b, o, none⟩)) (cs : List Value) (hc : w.rangeAt b o cs) (hu : (Tryz.prog.underlying ty).map (·.isRow) = some true) (hi : (Tryz.prog.info? ty).map (·.size) = some cs.length) : (execOp ev oi).run Tryz.prog w = .ok (.value (.agg cs.toArray)) w := by
 obtain ⟨d, h1, h2⟩ := Option.map_eq_some_iff.1 hu; unfold execOp; simp only [ho, hx, Instr.loadAt, Instr.sureAddr, Sem.run_bind, Sem.run_pure, Result.andThen_ok, run_loadVar_mid w b o ty cs d hc h1 h2 hi]
section
variable {w0 W : World} {F : KF} {V : KV} {P : KP} {M : List Asn} (H : Has w0 W (KL F V P ++ M)) (hF : KOk F w0) {r : RK} (hr : P.run = some r)
include H hF hr
theorem kend_any {now : Int} (hph : 4 ≤ r.ph) (hnow : 0 ≤ now ∧ now ≤ 1000) (hnom : 0 ≤ r.j.f2 ∧ r.j.f2 ≤ 1000) (hel : P.ev.length ≤ 1000) (hdl : P.done.length ≤ 1000) (hpt : ∀ q, P.done.getLast? = some q → q.pt ≤ r.pt) : Calls Tryz.prog 85 #[.pointer (some ⟨F.gp, 0, none⟩), O Y now] W fun e w' => e = .returned (.tuple #[]) ∧ ∃ V, Has w0 w' (KL F V (dropR P r now) ++ M) := by
 obtain ⟨gr, cc, hv, -⟩ := krow H hr; have hT := ZZ (ktop_some H hF.hm hv); have hd := ZZ (H.drewK.drewK); obtain ⟨km, vc, vm, m, hkm⟩ := kmach F V P M r; have x0 : W.drew.drew.cell? ⟨gr, 0, none⟩ = some (.pointer (some ⟨V.gi, 0, none⟩)) := (krow_at H hr hv 0 _ rfl).1; replace hr := ZZ hr; replace hv := ZZ hv; replace hF := ZZ hF; replace hkm := ZZ hkm; replace hph := ZZ hph; replace hpt := ZZ hpt; replace hel := ZZ hel; obtain ⟨hn0, hn1⟩ := hnow; obtain ⟨hm0, hm1⟩ := hnom; have hw1 : IntKind.i64.wrap (now + 1) = now + 1 := by rw [i64_w, wrapIn (by omega)]
 have hw2 : IntKind.i64.wrap (now + 1 - r.j.f2) = now + 1 - r.j.f2 := by rw [i64_w, wrapIn (by omega)]
 clear hn0 hn1 hm0 hm1; clear H; go_enter Tryz.func85, Tryz.ntmps85; go_wp2_with fail; refine hT.out.mono ?_; rintro e V1 ⟨rfl, rfl⟩; go_wp2_with fail; refine st 26 (S := fun w' => w'.cell? ⟨gr, 0, none⟩ = some (.pointer (some ⟨V.gi, 0, none⟩))) (ds := [17, 21, 25]) x0 (fun hHeld => ?_); generalize W.drew.drew = u0 at *; refine pq 0 ?_; refine pq 1 ?_; refine pq 2 ?_; refine pq 3 ?_; refine pq 4 ?_; refine pq 5 ?_; refine pq 6 ?_; refine pq 9 ?_; refine pq 10 ?_; refine pq 11 ?_; refine tk 7 hHeld ?_; refine tk 12 hHeld ?_; refine rg1 8 (fun K hK => ?_); refine goes_ Tryz.func131 (by kernel_rfl) rfl #[.pointer (some ⟨V.gi, 0, none⟩)] (by rfl) rfl rfl (by (try simp only [MA, List.map_cons, List.map_nil]); first | done | rfl) ?_; refine ((iin_any hd.out (krunA hr.out))).mono ?_; rintro e w2 ⟨rfl, hb2⟩; refine ⟨_, rfl, ?_⟩; have hd2 := ZZ (hd.out.step hb2); refine hK.out _ _ (cell_keep hb2 (NR _) hHeld) (fun hHeld => ?_); clear hK K; refine nm ?_; refine rg1 13 (fun K hK => ?_); refine goes_ Tryz.func130 (by kernel_rfl) rfl #[.pointer (some ⟨V.gi, 0, none⟩)] (by rfl) rfl rfl (by (try simp only [MA, List.map_cons, List.map_nil]); first | done | rfl) ?_; refine ((iouts_any hd2.out (krunA hr.out) hkm.out hph.out)).mono ?_; rintro e w3 ⟨rfl, rfl⟩; refine ⟨_, rfl, ?_⟩; refine hK.out _ _ hHeld (fun hHeld => ?_); clear hK K; refine nm ?_; refine pq 14 ?_; refine pq 15 ?_; refine pq 16 ?_; refine rg2 17 (fun K hK => ?_); have k5 := krow_at hd2.out hr.out hv.out 5 _ rfl; have k5a := k5.1; have k5b := k5.2; refine skip_ (w1 := ?_) (by rfl) rfl ?_ ?_; rotate_left
 · go_simp; rfl
 refine hK.out _ _ ?_; clear hK K; refine pq 18 ?_; refine pq 19 ?_; refine pq 20 ?_; refine rg2 21 (fun K hK => ?_); have hd4 : Has w0 (w3.setCell ⟨gr, 5, none⟩ (O Y now)) (KL F V { P with run := some { r with ls := now } } ++ M) := by
  have h := hd2.out.putK (k := 10) (o := 5) (g := gr) (n := 1) (c := cc) (xs := .pointer (some ⟨V.gi, 0, none⟩) :: r.enc) (by show some (rowA 184 23 (runN P.run) V.vr (runC V P.run)) = _; rw [hr.out, hv.out]; rfl) (O Y now); unfold KL at h ⊢; rw [hr.out] at h; rw [show V.vr = .slice (some ⟨gr, 0, none⟩) 1 cc from hv.out]; exact h
 obtain ⟨cur, c1, c2, c3⟩ := row_same hd4 rfl hv.out; replace hd4 := ZZ hd4; refine step_store_seg (by rfl) 79 (.tmp 27) (.tmp 16) rfl rfl gr 6 zer16 cur cur 184 rfl rfl c1 (by kernel_rfl) (by kernel_rfl) c3 c2 ?_; rw [setRow_self _ gr cur 184 (0, 0) c1]; refine hK.out _ _ ?_; clear hK K; refine pq 22 ?_; refine pq 23 ?_; refine pq 24 ?_; refine rg2 25 (fun K hK => ?_); have k22 := krow_at hd4.out rfl hv.out 22 _ rfl; have k22a := k22.1; have k22b := k22.2; refine skip_ (w1 := ?_) (by rfl) rfl ?_ ?_; rotate_left
 · go_simp; rfl
 refine hK.out _ _ ?_; clear hK K; refine dn ?_; have hd5 : Has w0 ((w3.setCell ⟨gr, 5, none⟩ (O Y now)).setCell ⟨gr, 22, none⟩ (.slice none 0 0)) (KL F V { P with run := some { r with ls := now } } ++ M) := by
  have h := hd4.out.putK (k := 10) (o := 22) (g := gr) (n := 1) (c := cc) (xs := .pointer (some ⟨V.gi, 0, none⟩) :: ({ r with ls := now } : RK).enc) (by show some (rowA 184 23 _ V.vr _) = _; rw [hv.out]; rfl) (.slice none 0 0); unfold KL at h ⊢; rw [show V.vr = .slice (some ⟨gr, 0, none⟩) 1 cc from hv.out]; exact h
 obtain ⟨w4, e4⟩ : ∃ w4, (w3.setCell ⟨gr, 5, none⟩ (O Y now)).setCell ⟨gr, 22, none⟩ (.slice none 0 0) = w4 := ⟨_, rfl⟩
 rw [e4] at hd5; rw [e4]; have hd5d := hd5.drewK; have q1 := (krow_at hd5d rfl hv.out 1 _ rfl).1; have q2 := (krow_at hd5d rfl hv.out 2 _ rfl).1; have hSay := ZZ (ksay_any hd5d hF.out 8 r.j.f0 r.j.f2 (now + 1 - r.j.f2) hel.out); clear hd hHeld hd2 hb2 hd4 k5 k5a k5b k22 k22a k22b c1 c2 c3 x0 e4 hd5 hd5d hT; go_wp2_with fail; refine st 20 (S := fun w' => w'.cell? ⟨gr, 1, none⟩ = some (O Y r.j.f0) ∧ w'.cell? ⟨gr, 2, none⟩ = some (O Y r.j.f2)) (ds := [19]) ⟨q1, q2⟩ (fun hHeld => ?_); generalize w4.drew = u2 at *; refine pq 0 ?_; refine pq 1 ?_; refine pq 2 ?_; refine pq 3 ?_; refine pq 4 ?_; refine pq 6 ?_; refine pq 7 ?_; refine pq 8 ?_; refine pq 9 ?_; refine pq 11 ?_; refine pq 12 ?_ (v := O Y (now + 1)) (hy := by intro w'; go_simp; (try exact hw1)); refine pq 13 ?_; refine pq 14 ?_; refine pq 15 ?_; refine pq 16 ?_; refine tk 5 hHeld ?_; refine tk 10 hHeld ?_; refine tk 17 hHeld ?_; refine pq 18 ?_ (v := O Y (now + 1 - r.j.f2)) (hy := by intro w'; go_simp; (try exact hw2)); refine rg2 19 (fun K hK => ?_); refine goes_ Tryz.func46 (by kernel_rfl) rfl #[.pointer (some ⟨F.gp, 0, none⟩), O Y 8, O Y r.j.f0, O Y r.j.f2, O Y (now + 1 - r.j.f2)] (by rfl) rfl rfl (by (try simp only [MA, List.map_cons, List.map_nil]); first | done | rfl) ?_; refine (hSay.out).mono ?_; rintro e w5 ⟨rfl, ve, H6⟩; refine ⟨_, rfl, ?_⟩; replace H6 := ZZ H6; refine hK.out _ _ ?_; clear hK K; refine nm ?_; refine dn ?_; clear q1 q2 hHeld hSay hw1 hw2; obtain ⟨n, hn⟩ : ∃ n, P.done.length = n := ⟨_, rfl⟩
 obtain ⟨dl, hdle⟩ : ∃ dl, P.done.flatMap RK.enc = dl := ⟨_, rfl⟩
 obtain ⟨el, hele⟩ : ∃ el, (P.ev ++ [⟨8, r.j.f0, r.j.f2, now + 1 - r.j.f2⟩] : List EK) = el := ⟨_, rfl⟩
 have hd6 := H6.out.drewK; have hq6 : ∀ i u, (Value.pointer (some ⟨V.gi, 0, none⟩) :: ({ r with ls := now } : RK).enc)[i]? = some u → w5.drew.cell? ⟨gr, i, none⟩ = some u := fun i u hu => (krow_at hd6 rfl hv.out i u hu).1; obtain ⟨Ad, cd, hvd, -⟩ := LRow.slice (hd6.rowK (k := 11) rfl); replace hvd : V.vd = .slice Ad n cd := by rw [← hn]; exact hvd
 have c93 := (PQ.done_at (hd6.blk (k := 2) rfl) hF.out.hm).trans (rfl : _ = some V.vd); rw [hvd] at c93; have c93w := (PQ.done_at (H6.out.blk (k := 2) rfl) hF.out.hm).trans (rfl : _ = some V.vd); rw [hvd] at c93w; unfold KL at hd6; dsimp only at hd6; rw [hele, hn, hdle] at hd6; rw [hn] at hdl; have hob : V.vd.ownBlock = (Value.slice Ad n cd).ownBlock := by rw [hvd]
 replace hob := ZZ hob; replace hvd := ZZ hvd; replace hd6 := ZZ hd6; replace hn := ZZ hn; replace hdle := ZZ hdle; replace hele := ZZ hele; clear H6; go_wp2_with fail; refine st 14 (S := fun w' => w'.cell? ⟨F.gp, 93, none⟩ = some (.slice Ad n cd) ∧ ∀ i u, (Value.pointer (some ⟨V.gi, 0, none⟩) :: ({ r with ls := now } : RK).enc)[i]? = some u → w'.cell? ⟨gr, i, none⟩ = some u) (ds := [10, 13]) ⟨c93, hq6⟩ (fun hHeld => ?_); generalize w5.drew = u4 at *; refine pq 0 ?_; refine pq 1 ?_; refine pq 2 ?_; refine pq 3 ?_; refine pq 5 ?_; refine pq 6 ?_; refine pq 7 ?_; refine tk 4 hHeld ?_; refine tk 8 hHeld ?_ (v := .agg #[O Y r.j.f0, O Y r.j.f2, O Y r.bg, O Y r.pt, O Y now, O Y 0, O Y 0, O Y 0, O Y 0, O Y 0, O Y 0, O Y 0, O Y 0, O Y 0, O Y 0, O Y 0, O Y 0, O Y 0, O Y 0, O Y 0, O Y 0, .slice none 0 0]) (hy := by exact fun w' s0 => exec_load_seg _ 182 (.tmp 63) rfl gr 1 rfl _ (fun j v h => s0.2 (1 + j) v (by rw [Nat.add_comm]; exact h)) (by kernel_rfl) (by kernel_rfl)); refine rg1 9 (fun K hK => ?_); refine value_ (w1 := ?_) (v := ?_) (by rfl) rfl ?_ ?_; rotate_left 2
 · go_simp; constructor
   · rfl
   · rfl
 have bn := (BR u4.heap.size u4).alloc (NR _) (.cells #[O Y r.j.f0, O Y r.j.f2, O Y r.bg, O Y r.pt, O Y now, O Y 0, O Y 0, O Y 0, O Y 0, O Y 0, O Y 0, O Y 0, O Y 0, O Y 0, O Y 0, O Y 0, O Y 0, O Y 0, O Y 0, O Y 0, O Y 0, .slice none 0 0] 182); have H7 := hd6.out.new 182 #[O Y r.j.f0, O Y r.j.f2, O Y r.bg, O Y r.pt, O Y now, O Y 0, O Y 0, O Y 0, O Y 0, O Y 0, O Y 0, O Y 0, O Y 0, O Y 0, O Y 0, O Y 0, O Y 0, O Y 0, O Y 0, O Y 0, O Y 0, .slice none 0 0]; have r7 := H7.rowK (k := 11) rfl; rw [hvd.out] at r7; refine hK.out _ _ ⟨cell_keep bn (NR _) hHeld.1, fun i u hu => cell_keep bn (NR _) (hHeld.2 i u hu)⟩ (fun hHeld => ?_); clear hK K; refine nm ?_; refine rg2 10 (fun K hK => ?_); refine step_append_loose _ 0 (by rfl) (.tmp 60) (.tmp 65) 87 182 _ 22 192 rfl Tryz.underlying87 info182K rfl (by decide) (by decide) (.slice Ad n cd) n dl ({ r with ls := now } : RK).enc (some ⟨u4.heap.size, 0, none⟩) 1 1 rfl rfl rfl (enc_one _) r7 (.inr ⟨_, rfl, World.news_of_block (heap_alloc_new u4 _)⟩) (Nat.zero_le _) (by omega) ?_; intro v1 w7 hrow hg hat
 obtain ⟨A1, c1, rfl, -⟩ := LRow.slice hrow; have H7' := Has.growK H7 (k := 11) rfl (by rw [hob.out]; exact hg) hrow (by rw [hob.out]; rcases hat with h | h; exact .inl h; exact .inr ⟨_, h, by simp⟩); have c93 := (PQ.done_at (H7'.blk (k := 2) rfl) hF.out.hm).trans (rfl : _ = some V.vd); have f93 := blk_frozen (H7'.blk (k := 2) rfl) 93; have H8 := hset_done H7' (k := 2) rfl hF.out.hm (.slice A1 (n + 1) c1); refine hK.out _ _ ?_; clear hK K; refine nm ?_; refine pq 11 ?_; refine pq 12 ?_; refine rg2 13 (fun K hK => ?_); refine skip_ (w1 := ?_) (by rfl) rfl ?_ ?_; rotate_left
 · go_simp; rfl
 refine hK.out _ _ ?_; clear hK K; refine dn ?_; obtain ⟨W8, e8⟩ : ∃ W8, w7.setCell ⟨F.gp, 93, none⟩ (.slice A1 (n + 1) c1) = W8 := ⟨_, rfl⟩
 rw [e8] at H8; rw [e8]; obtain ⟨gd, rfl⟩ : ∃ gd, A1 = some ⟨gd, 0, none⟩ := by
  rcases hrow.2 with ⟨h, _⟩ | ⟨g, cap, cur, h, _⟩
  · cases h
  · injection h with h
    exact ⟨_, h⟩
 have hL8 : Has w0 W8 (KL F { V with ve := ve, vd := .slice (some ⟨gd, 0, none⟩) (n + 1) c1 } { P with run := some { r with ls := now }, done := P.done ++ [{ r with ls := now }], ev := el } ++ M) := by
  unfold KL; dsimp only; rw [List.length_append, hn.out, List.flatMap_append, hdle.out]; simp only [List.flatMap_cons, List.flatMap_nil, List.append_nil]; exact H8
 have hcel : ∀ j u, (dl ++ ({ r with ls := now } : RK).enc)[j]? = some u → W8.drew.cell? ⟨gd, j, none⟩ = some u := by
  intro j u hj; have h := hL8.drewK.rowK (k := 11) rfl; simp only [List.length_append, hn.out, List.flatMap_append, hdle.out, List.flatMap_cons, List.flatMap_nil, List.append_nil] at h; have h2 := LRow.cell h j u hj; rwa [add_plain] at h2
 have c93 : W8.drew.cell? ⟨F.gp, 93, none⟩ = some (.slice (some ⟨gd, 0, none⟩) (n + 1) c1) := (PQ.done_at (hL8.drewK.blk (k := 2) rfl) hF.out.hm).trans rfl; have hdl22 : dl.length = n * 22 := by
  rw [← hdle.out, ← hn.out]; exact flat_len P.done
 have hrp : W8.drew.cell? ⟨gd, n * 22 + 3, none⟩ = some (O Y r.pt) := hcel _ _ (by rw [List.getElem?_append_right (by omega), hdl22, Nat.add_sub_cancel_left]; rfl); have hFin : ∀ W9, Has w0 W9 (KL F { V with ve := ve, vd := .slice (some ⟨gd, 0, none⟩) (n + 1) c1 } { P with run := some { r with ls := now }, done := P.done ++ [{ r with ls := now }], ev := el } ++ M) → Has w0 (W9.setCell ⟨F.gp, 92, none⟩ (.slice (some ⟨gr, 0, none⟩) 0 cc)) (KL F { V with ve := ve, vd := .slice (some ⟨gd, 0, none⟩) (n + 1) c1, vr := .slice (some ⟨gr, 0, none⟩) 0 cc } (dropR P r now) ++ M) := by
  intro W9 h9; have h := h9.cutK (k := 10) (g := gr) (n := 1) (c := cc) (m := 0) (xs := .pointer (some ⟨V.gi, 0, none⟩) :: ({ r with ls := now } : RK).enc) (by show some (rowA 184 23 _ V.vr _) = _; rw [hv.out]; rfl) (by decide); have h2 := (hset_runs h (k := 2) rfl hF.out.hm (.slice (some ⟨gr, 0, none⟩) 0 cc)).loseK (k := 13) rfl; unfold dropR; rw [hele.out]; exact h2
 replace hFin := ZZ hFin; replace hL8 := ZZ hL8; replace hcel := ZZ hcel; replace hdl22 := ZZ hdl22; clear hrow hg hat H7 H7' r7 bn c93w hq6 hHeld hd6 hob H8 f93 hvd; go_wp2_with fail; go_loopw [5] (fun vi wr => vi = O Y (n : Int) ∧ wr = W8) (fun _ _ => 0); case atStart => exact ⟨rfl, rfl⟩
 case round =>
  obtain ⟨rfl, hwr⟩ := hrel; rw [hwr]; have c92 : W8.drew.drew.cell? ⟨F.gp, 92, none⟩ = some (.slice (some ⟨gr, 0, none⟩) 1 cc) := (PQ.runs_at (hL8.out.drewK.drewK.blk (k := 2) rfl) hF.out.hm).trans (by rw [show (KQ F { V with ve := ve, vd := .slice (some ⟨gd, 0, none⟩) (n + 1) c1 }).runs = V.vr from rfl, hv.out]); have f92 : W8.drew.drew.frozen? ⟨F.gp, 92, none⟩ = false := blk_frozen (hL8.out.drewK.drewK.blk (k := 2) rfl) 92; by_cases hn0 : n = 0
  · have hz : decide ((n : Int) > 0) = false := decide_eq_false (by omega); clear hrp; go_wp2_with fail; refine st 22 (S := fun w' => True) (ds := []) trivial (fun hHeld => ?_); generalize hu5 : W8.drew = u5 at *; refine pq 0 ?_; refine pq 1 ?_; refine pq 2 ?_; refine po 3 ?_; refine po 4 ?_; refine po 5 ?_; refine po 7 ?_; refine po 8 ?_; refine po 12 ?_; refine po 13 ?_; refine po 14 ?_; refine po 16 ?_; refine po 6 ?_; refine po 9 ?_; refine po 10 ?_; refine po 11 ?_; refine po 15 ?_; refine po 17 ?_; refine po 18 ?_; refine po 19 ?_; refine po 20 ?_; refine pq 21 ?_; refine dn ?_; clear hHeld; go_wp2_with fail; refine st 15 (S := fun w' => w'.cell? ⟨F.gp, 92, none⟩ = some (.slice (some ⟨gr, 0, none⟩) 1 cc)) (ds := [14]) c92 (fun hHeld => ?_); refine pq 0 ?_; refine pq 1 ?_; refine pq 2 ?_; refine pq 3 ?_; refine pq 5 ?_; refine pq 6 ?_; refine pq 7 ?_; refine tk 4 hHeld ?_; refine tk 8 hHeld ?_; refine pq 9 ?_; refine pq 10 ?_ (v := O Y 0) (hy := by intro w'; go_simp; rfl); refine pq 11 ?_; refine pq 12 ?_; refine pq 13 ?_; refine rg2 14 (fun K hK => ?_); refine skip_ (w1 := ?_) (by rfl) rfl ?_ ?_; rotate_left
    · go_simp; rfl
    refine hK.out _ _ ?_; clear hK K; refine dn ?_; go_end0; exact ⟨rfl, _, (by rw [← hu5]; exact (hFin.out _ hL8.out.drewK).drewK)⟩
  · obtain ⟨k, hk⟩ : ∃ k, n = k + 1 := ⟨n - 1, by omega⟩
    obtain ⟨q, hq, hqc⟩ := last_cell (d := P.done) (n := n) (k := k) (by rw [hn.out]) hk; have hqp : W8.drew.cell? ⟨gd, k * 22 + 3, none⟩ = some (O Y q.pt) := hcel.out _ _ (by rw [List.getElem?_append_left (by rw [hdl22.out]; omega), ← hdle.out]; exact hqc); have hle := hpt.out q hq; have z1 : decide (q.pt > r.pt) = false := decide_eq_false (by omega); have z0 : 0 < n := by omega
    have z2 : IntKind.i64.wrap ((n : Int) - 1) = (k : Int) := by rw [i64_w, wrapIn (by omega)]; omega
    have z3 : (k : Int) < (n : Int) + 1 := by omega
    have z4 : (n : Int) < (n : Int) + 1 := by omega
    replace hk := ZZ hk; go_wp2_with fail; refine st 22 (S := fun w' => w'.cell? ⟨F.gp, 93, none⟩ = some (.slice (some ⟨gd, 0, none⟩) (n + 1) c1) ∧ w'.cell? ⟨gd, k * 22 + 3, none⟩ = some (O Y q.pt) ∧ w'.cell? ⟨gd, n * 22 + 3, none⟩ = some (O Y r.pt)) (ds := []) ⟨c93, hqp, hrp⟩ (fun hHeld => ?_); generalize hu5 : W8.drew = u5 at *; refine pq 0 ?_; refine pq 1 ?_ (v := .bool true) (hy := by intro w'; go_simp; (try exact z0)); refine pq 2 ?_; refine pq 3 ?_; refine pq 4 ?_; refine pq 5 ?_; refine pq 7 ?_; refine pq 8 ?_; refine pq 12 ?_; refine pq 13 ?_; refine pq 14 ?_; refine pq 16 ?_; refine tk 6 hHeld ?_; refine pq 9 ?_; refine pq 10 ?_; refine tk 11 hHeld ?_; refine tk 15 hHeld ?_; refine pq 17 ?_; refine pq 18 ?_; refine tk 19 hHeld ?_; refine pq 20 ?_; refine pq 21 ?_; refine dn ?_; clear hHeld; go_wp2_with fail; refine st 15 (S := fun w' => w'.cell? ⟨F.gp, 92, none⟩ = some (.slice (some ⟨gr, 0, none⟩) 1 cc)) (ds := [14]) c92 (fun hHeld => ?_); refine pq 0 ?_; refine pq 1 ?_; refine pq 2 ?_; refine pq 3 ?_; refine pq 5 ?_; refine pq 6 ?_; refine pq 7 ?_; refine tk 4 hHeld ?_; refine tk 8 hHeld ?_; refine pq 9 ?_; refine pq 10 ?_ (v := O Y 0) (hy := by intro w'; go_simp; rfl); refine pq 11 ?_; refine pq 12 ?_; refine pq 13 ?_; refine rg2 14 (fun K hK => ?_); refine skip_ (w1 := ?_) (by rfl) rfl ?_ ?_; rotate_left
    · go_simp; rfl
    refine hK.out _ _ ?_; clear hK K; refine dn ?_; go_end0; exact ⟨rfl, _, (by rw [← hu5]; exact (hFin.out _ hL8.out.drewK).drewK)⟩
end
end
section
def kstepP (P : KP) (r : RK) (now kd : Int) (df : Bool) : KP := if kd = 1 then { P with ev := P.ev ++ [⟨3, r.j.f0, 0, 0⟩] } else if kd = 4 then { P with ev := P.ev ++ [⟨7, r.j.f0, 0, 0⟩], run := some { r with pt := now } } else if df = true then dropR P r now else P
section
variable {w0 W : World} {F : KF} {V : KV} {P : KP} {M : List Asn} (H : Has w0 W (KL F V P ++ M))
include H
theorem kin_range : W.rangeAt F.gp 8 zer16.toList := by
 intro j v hj; have hP := H.blk (k := 2) rfl; have hjl : j < 16 := (GI.1 hj).1; refine (blk_cell hP (8 + j)).trans ((PQ.at_pre _ (by omega)).trans ?_); rw [← hj, show zer16.toList = ((KQ F V).pre.drop 8).take 16 from rfl, List.getElem?_take, if_pos hjl, List.getElem?_drop]
theorem kS2 {r : RK} (hr : P.run = some r) {gr cc : Nat} (hv : V.vr = .slice (some ⟨gr, 0, none⟩) 1 cc) : W.cell? ⟨gr, 0, none⟩ = some (.pointer (some ⟨V.gi, 0, none⟩)) ∧ W.rangeAt F.gp 8 zer16.toList := ⟨(krow_at H hr hv 0 _ rfl).1, kin_range H⟩
theorem kstep_any {P2 : KP} {r r2 : RK} {now kd : Int} {df : Bool} (hF : KOk F w0) (hr : P.run = some r) (hr2 : P2.run = some r2) (hst : ∀ w N, Has w0 w (KL F V P ++ N) → Calls Tryz.prog 83 #[.pointer (some ⟨V.gi, 0, none⟩), .pointer (some ⟨F.gp, 25, none⟩), .agg #[O Y 0, O Y 0, O Y 0, O Y 0, O Y 0, O Y 0, O Y 0, O Y 0, O Y 0, O Y 0, O Y 0, O Y 0, O Y 0, O Y 0, O Y 0, O Y 0]] w fun e w' => e = .returned (.tuple #[.agg #[O Y kd, O Y 0, .bool df], O Y 0]) ∧ Has w0 w' (KL F V P2 ++ N))
 (hc : (kd = 0 ∧ df = false ∧ r2.pt = -1) ∨ (kd = 1 ∧ df = false ∧ r2.pt = -1) ∨ (kd = 4 ∧ df = false ∧ r2.pt = -1 ∧ 4 ≤ r2.ph) ∨ (kd = 0 ∧ df = true ∧ 0 ≤ r2.pt ∧ 4 ≤ r2.ph)) (hnow : 0 ≤ now ∧ now ≤ 1000) (hnom : 0 ≤ r2.j.f2 ∧ r2.j.f2 ≤ 1000) (hel : P2.ev.length ≤ 1000) (hdl : P2.done.length ≤ 1000) (hlp : df = true → ∀ q, P2.done.getLast? = some q → q.pt ≤ r2.pt) : Calls Tryz.prog 48 #[.pointer (some ⟨F.gp, 0, none⟩), O Y now] W fun e w' => e = .returned (.tuple #[]) ∧ ∃ V, Has w0 w' (KL F V (kstepP P2 r2 now kd df) ++ M) := by
 obtain ⟨gr, cc, hv, -⟩ := krow H hr; have hT := ZZ (ktop_some H hF.hm hv); have HC := ZZ H.drewK.drewK; have hS2 := kS2 HC.out hr hv; have hSt := ZZ hst; replace hr := ZZ hr; replace hr2 := ZZ hr2; replace hv := ZZ hv; replace hF := ZZ hF; replace hc := ZZ hc; replace hnow := ZZ hnow; replace hnom := ZZ hnom; replace hel := ZZ hel; replace hdl := ZZ hdl; replace hlp := ZZ hlp; clear H hst; go_enter Tryz.func48, Tryz.ntmps48; go_wp2_with fail; refine hT.out.mono ?_; rintro e V1 ⟨rfl, rfl⟩; go_wp2_with fail; refine st 18 (S := fun w' => w'.cell? ⟨gr, 0, none⟩ = some (.pointer (some ⟨V.gi, 0, none⟩)) ∧ w'.rangeAt F.gp 8 zer16.toList) (ds := [16]) hS2 (fun hHeld => ?_); generalize W.drew.drew = u0 at *; refine pq 0 ?_; refine pq 1 ?_; refine pq 2 ?_; refine pq 4 ?_; refine pq 5 ?_; refine pq 6 ?_; refine pq 7 ?_; refine pq 8 ?_; refine pq 9 ?_; refine tk 3 hHeld ?_; refine tk 10 hHeld ?_ (v := .agg #[O Y 0, O Y 0, O Y 0, O Y 0, O Y 0, O Y 0, O Y 0, O Y 0, O Y 0, O Y 0, O Y 0, O Y 0, O Y 0, O Y 0, O Y 0, O Y 0]) (hy := by exact fun w' s0 => exec_load_seg _ 79 (.tmp 21) rfl F.gp 8 rfl _ s0.2 (by kernel_rfl) (by kernel_rfl)); refine join_ (σ := Nat) 2 #[true, true, true, true, true, true, true, true, true, true, true, true, true, true, true, true, false, false] (fun s => [(23, .tuple #[.agg #[O Y kd, O Y 0, .bool df], O Y 0]), (11, .tuple #[.agg #[O Y kd, O Y 0, .bool df], O Y 0]), (24, .agg #[O Y kd, O Y 0, .bool df]), (25, O Y 0), (5, .pointer (some ⟨s, 0, none⟩))]) (fun s w' => Has w0 w' (KL F V P2 ++ (M ++ [boxA s 188 #[O Y 0, O Y 0, .bool false]]))) ?_ (fun hJ => ?_); rotate_left
 · skip; refine two_ (i := 11) (j := 15) (Ni := some 23) (Nj := some 5) #[true, true, true, true, true, true, true, true, true, true, true, true, false, false, false, false, false, false] #[true, true, true, true, true, true, true, true, true, true, true, false, false, false, false, true, false, false] rfl rfl rfl rfl (by kernel_rfl) (by decide) (by decide) (fun K hK => ?_) (fun K hK => ?_)
   · skip; refine goes_ Tryz.func83 (by kernel_rfl) rfl #[.pointer (some ⟨V.gi, 0, none⟩), .pointer (some ⟨F.gp, 25, none⟩), .agg #[O Y 0, O Y 0, O Y 0, O Y 0, O Y 0, O Y 0, O Y 0, O Y 0, O Y 0, O Y 0, O Y 0, O Y 0, O Y 0, O Y 0, O Y 0, O Y 0]] (by rfl) rfl rfl (by (try simp only [MA, List.map_cons, List.map_nil]); first | done | rfl) ?_; refine (hSt.out _ _ HC.out).mono ?_; rintro e w5 ⟨rfl, H5⟩; refine ⟨_, rfl, ?_⟩; replace HC := ZZ H5; clear H5; refine hK.out _ _ (kS2 HC.out hr2.out hv.out) (fun hHeld => ?_); clear hK K; refine nm ?_; refine pq 12 ?_; refine pq 13 ?_; refine pq 14 ?_; refine rg1 15 (fun K hK => ?_); refine value_ (w1 := ?_) (v := ?_) (by rfl) rfl ?_ ?_; rotate_left 2
     · go_simp; constructor
       · rfl
       · rfl
     have hG := HC.out.boxed 188 #[O Y 0, O Y 0, .bool false]; rw [List.append_assoc] at hG; replace HC := ZZ hG; clear hG; refine hK.out _ _ (kS2 HC.out hr2.out hv.out) (fun hHeld => ?_); clear hK K; refine nm ?_; have hq := hJ w5.heap.size _ HC.out; simp only [putAll, Act.put, List.setIfInBounds_toArray, List.set_cons_zero, List.set_cons_succ] at hq; exact hq
   · skip; refine value_ (w1 := ?_) (v := ?_) (by rfl) rfl ?_ ?_; rotate_left 2
     · go_simp; constructor
       · rfl
       · rfl
     have hG := HC.out.boxed 188 #[O Y 0, O Y 0, .bool false]; rw [List.append_assoc] at hG; replace HC := ZZ hG; clear hG; refine hK.out _ _ (kS2 HC.out hr.out hv.out) (fun hHeld => ?_); clear hK K; refine nm ?_; refine rg1 11 (fun K hK => ?_); refine goes_ Tryz.func83 (by kernel_rfl) rfl #[.pointer (some ⟨V.gi, 0, none⟩), .pointer (some ⟨F.gp, 25, none⟩), .agg #[O Y 0, O Y 0, O Y 0, O Y 0, O Y 0, O Y 0, O Y 0, O Y 0, O Y 0, O Y 0, O Y 0, O Y 0, O Y 0, O Y 0, O Y 0, O Y 0]] (by rfl) rfl rfl (by (try simp only [MA, List.map_cons, List.map_nil]); first | done | rfl) ?_; refine (hSt.out _ _ HC.out).mono ?_; rintro e w5 ⟨rfl, H5⟩; refine ⟨_, rfl, ?_⟩; replace HC := ZZ H5; clear H5; refine hK.out _ _ (kS2 HC.out hr2.out hv.out) (fun hHeld => ?_); clear hK K; refine nm ?_; refine pq 12 ?_; refine pq 13 ?_; refine pq 14 ?_; have hq := hJ u0.heap.size _ HC.out; simp only [putAll, Act.put, List.setIfInBounds_toArray, List.set_cons_zero, List.set_cons_succ] at hq; exact hq
 rintro gb u9 F9; obtain ⟨Sg, hgb, -⟩ := F9.get (a := boxA gb 188 #[O Y 0, O Y 0, .bool false]) (by simp); refine norm_ (a' := ?_) ?_ ?_; rotate_left
 · show putAll _ _ = _; simp only [putAll, Act.put, List.setIfInBounds_toArray, List.set_cons_zero, List.set_cons_succ]; rfl
 refine rg2 16 (fun K hK => ?_); refine step_store (by rfl) 188 (.tmp 5) (.tmp 24) rfl rfl gb #[O Y kd, O Y 0, .bool df] rfl rfl 188 _ hgb.2 (by kernel_rfl) rfl (by kernel_rfl) ?_; refine hK.out _ _ ?_; clear hK K; refine pq 17 ?_; refine dn ?_; have H9 := hlast_setr F9 #[O Y kd, O Y 0, .bool df]; obtain ⟨W9, e9⟩ : ∃ W9, u9.setRow gb #[O Y kd, O Y 0, .bool df] = W9 := ⟨_, rfl⟩
 rw [e9] at H9; rw [e9]; obtain ⟨gz, hgz⟩ : ∃ g, gb = g := ⟨_, rfl⟩
 clear F9 hgb HC hHeld hT hSt hS2 hr e9; rcases hc.out with ⟨rfl, rfl, hpt⟩ | ⟨rfl, rfl, hpt⟩ | ⟨rfl, rfl, hpt, hph⟩ | ⟨rfl, rfl, hpt, hph⟩ <;> clear hc
 · clear hgz; have y0 := (hlast_cell H9 0).trans (rfl : _ = some (O Y 0)); have y1 := (hlast_cell H9 1).trans (rfl : _ = some (O Y 0)); have y2 := (hlast_cell H9 2).trans (rfl : _ = some (Value.bool false)); have p4 := (krow_at H9 hr2.out hv.out 4 _ rfl).1; have g4 := (krow_at H9 hr2.out hv.out 4 _ rfl).2; rw [hpt] at p4; replace H9 := ZZ H9; go_wp2_with fail; go_end0; exact ⟨rfl, _, hlast_cut H9.out⟩
 · clear hgz; have y0 := (hlast_cell H9 0).trans (rfl : _ = some (O Y 1)); have y1 := (hlast_cell H9 1).trans (rfl : _ = some (O Y 0)); have y2 := (hlast_cell H9 2).trans (rfl : _ = some (Value.bool false)); have p4 := (krow_at H9 hr2.out hv.out 4 _ rfl).1; have g4 := (krow_at H9 hr2.out hv.out 4 _ rfl).2; rw [hpt] at p4; have p1 := (krow_at H9 hr2.out hv.out 1 _ rfl).1; have hSay := ZZ (ksay_any H9 hF.out 3 r2.j.f0 0 0 hel.out); clear H9; go_wp2_with fail; refine hSay.out.mono ?_; rintro e w10 ⟨rfl, ve, H10⟩; clear hSay y0 y1 y2 p1 p4 g4; have y0 := (hlast_cell H10 0).trans (rfl : _ = some (O Y 1)); have y1 := (hlast_cell H10 1).trans (rfl : _ = some (O Y 0)); have y2 := (hlast_cell H10 2).trans (rfl : _ = some (Value.bool false)); have p4 := (krow_at H10 (P := { P2 with ev := P2.ev ++ [⟨3, r2.j.f0, 0, 0⟩] }) hr2.out hv.out 4 _ rfl).1; have g4 := (krow_at H10 (P := { P2 with ev := P2.ev ++ [⟨3, r2.j.f0, 0, 0⟩] }) hr2.out hv.out 4 _ rfl).2; rw [hpt] at p4; replace H10 := ZZ H10; go_wp2_with fail; go_end0; exact ⟨rfl, _, hlast_cut H10.out⟩
 · clear hgz; have y0 := (hlast_cell H9 0).trans (rfl : _ = some (O Y 4)); have y1 := (hlast_cell H9 1).trans (rfl : _ = some (O Y 0)); have y2 := (hlast_cell H9 2).trans (rfl : _ = some (Value.bool false)); have p4 := (krow_at H9 hr2.out hv.out 4 _ rfl).1; have g4 := (krow_at H9 hr2.out hv.out 4 _ rfl).2; rw [hpt] at p4; have hCo := ZZ (kcommit_any H9 hF.out hr2.out hv.out hph hel.out); clear H9; go_wp2_with fail; refine hCo.out.mono ?_; rintro e w10 ⟨rfl, ve, H10⟩; clear hCo y0 y1 y2 p4 g4; have y0 := (hlast_cell H10 0).trans (rfl : _ = some (O Y 4)); have y1 := (hlast_cell H10 1).trans (rfl : _ = some (O Y 0)); have y2 := (hlast_cell H10 2).trans (rfl : _ = some (Value.bool false)); have p4 := (krow_at H10 (P := { P2 with ev := P2.ev ++ [⟨7, r2.j.f0, 0, 0⟩] }) hr2.out hv.out 4 _ rfl).1; have g4 := (krow_at H10 (P := { P2 with ev := P2.ev ++ [⟨7, r2.j.f0, 0, 0⟩] }) hr2.out hv.out 4 _ rfl).2; rw [hpt] at p4; have H11 : Has w0 (w10.setCell ⟨gr, 4, none⟩ (O Y now)) (KL F { V with ve := ve } { P2 with ev := P2.ev ++ [⟨7, r2.j.f0, 0, 0⟩], run := some { r2 with pt := now } } ++ (M ++ [boxA gb 188 #[O Y 4, O Y 0, .bool false]])) := by
    have h := H10.putK (k := 10) (o := 4) (g := gr) (n := 1) (c := cc) (xs := .pointer (some ⟨V.gi, 0, none⟩) :: r2.enc) (by show some (rowA 184 23 (runN P2.run) V.vr (runC V P2.run)) = _; rw [hr2.out, hv.out]; rfl) (O Y now); unfold KL at h ⊢; dsimp only at h ⊢; rw [hr2.out] at h; rw [show V.vr = .slice (some ⟨gr, 0, none⟩) 1 cc from hv.out] at h ⊢; exact h
   have y2' := (hlast_cell H11 2).trans (rfl : _ = some (Value.bool false)); replace H10 := ZZ H10; replace H11 := ZZ H11; go_wp2_with fail; go_end0; exact ⟨rfl, _, hlast_cut H11.out⟩
 · clear hgz; have y0 := (hlast_cell H9 0).trans (rfl : _ = some (O Y 0)); have y1 := (hlast_cell H9 1).trans (rfl : _ = some (O Y 0)); have y2 := (hlast_cell H9 2).trans (rfl : _ = some (Value.bool true)); have p4 := (krow_at H9 hr2.out hv.out 4 _ rfl).1; have g4 := (krow_at H9 hr2.out hv.out 4 _ rfl).2; have hne : (r2.pt == -1) = false := beq_eq_false_iff_ne.mpr (by omega); have hE := ZZ (kend_any H9 hF.out hr2.out hph hnow.out hnom.out hel.out hdl.out (hlp.out rfl)); clear H9 hpt; go_wp2_with fail; refine hE.out.mono ?_; rintro e w10 ⟨rfl, V10, H10⟩; replace H10 := ZZ (hlast_cut H10); clear hE y0 y1 y2 p4 g4; go_wp2_with fail; go_end0; exact ⟨rfl, _, H10.out⟩
end
end
end Go.Proofs.YtoopeamoejmjeaaGreat.Tp
namespace Go.Proofs.YtoopeamoejmjeaaGreat.Tp
open RowKit YtoopeamoejmjeaaGreatW.PrintWords YtoopeamoejmjeaaGreatW.PrintLast YtoopeamoejmjeaaGreatW.PrintMore Tm
section
section
variable {F : Fence} {n : Nat} {ops : Array Oper} {Q : Exit → Act → World → Prop} {a : Act} {w : World} {rest : List Oper} {o : Oper}
theorem wpListIn_load_run {p v : Value} (hg : o.guard = none) (ty : TypeId) (x : Operand) (hop : o.op = .load ty x) (hx : a.eval x = p) (hrun : (Instr.loadAt ty p).run Tryz.prog w = .ok v w) (h : wpListIn F n Tryz.prog ops Q rest (a.put o.dst v) w) : wpListIn F n Tryz.prog ops Q (o :: rest) a w := by
 refine wpListIn_plain hg fun K hK => ?_; unfold Oper.wpIn; refine ⟨by simp [Oper.about, hop], ?_⟩; rw [Oper.semAt_plain F _ _ (by rw [hop]; intro c hc'; cases hc')]; simp [execOp, hop, hx, hrun, Result.andThen]; exact hK _ _ h
theorem wpListIn_store_run {p v : Value} {w' : World} (hg : o.guard = none) (ty : TypeId) (x y : Operand) (hop : o.op = .store ty x y) (hx : a.eval x = p) (hy : a.eval y = v) (hrun : (Instr.storeAt ty p v).run Tryz.prog w = .ok () w') (h : wpListIn F n Tryz.prog ops Q rest (a.put o.dst undef) w') : wpListIn F n Tryz.prog ops Q (o :: rest) a w := by
 refine wpListIn_plain hg fun K hK => ?_; unfold Oper.wpIn; refine ⟨by simp [Oper.about, hop], ?_⟩; rw [Oper.semAt_plain F _ _ (by rw [hop]; intro c hc'; cases hc')]; simp [execOp, hop, hx, hy, hrun, Result.andThen]; exact hK _ _ h
end
theorem store_new_run {w : World} {ty : TypeId} {old new : Array Value} (hi : (Tryz.prog.info? ty).map (·.size) = some new.size) (h1 : new.all (·.oneCell') = true) (hs : old.size = new.size) : (Instr.storeAt ty (.pointer (some ⟨w.heap.size, 0, none⟩)) (.agg new)).run Tryz.prog (w.alloc (.cells old ty)) = .ok () (w.alloc (.cells new ty)) := by
 have h := run_store_seg (w := w.alloc (.cells old ty)) ty w.heap.size 0 new new old ty (heap_alloc_new w _) hi h1 (by simp [hs]) (by rw [List.drop_of_length_le (by simp [hs])]; simp); rwa [World.setRow_alloc_new] at h
def KC (A B : World) : Prop := A.heap.size ≤ B.heap.size ∧ ∀ (k : Nat) (cs : Array Value) (t : TypeId) (fr : Nat × Nat), A.heap[k]? = some (.cells cs t fr) → B.heap[k]? = some (.cells cs t fr)
theorem KC.refl (A : World) : KC A A := ⟨NR _, fun _ _ _ _ h => h⟩
theorem KC.trans {A B C : World} (h : KC A B) (k : KC B C) : KC A C := ⟨Nat.le_trans h.1 k.1, fun j cs t fr hj => k.2 j cs t fr (h.2 j cs t fr hj)⟩
theorem KC.put {W : World} {l : Nat} {o : Obj} (o' : Obj) (h : W.heap[l]? = some o) (hn : o.isCells = false) : KC W (W.putObj l o') := by
 refine ⟨by simp, fun k cs t fr hk => ?_⟩; by_cases hkl : k = l
 · subst hkl; rw [h] at hk; injection hk with hk
   subst hk; cases hn
 · rw [World.putObj_heap_other hkl, hk]
theorem KC.of_below {A B : World} (h : Below A.heap.size A B) : KC A B := ⟨h.size, fun k cs t fr hk => (h.block k (ltA hk)).trans hk⟩
theorem below_put {n : Nat} {W : World} (l : Nat) (o : Obj) (h : n ≤ l) : Below n W (W.putObj l o) := ⟨rfl, rfl, rfl, by simp, fun k hk => World.putObj_heap_other (by omega)⟩
theorem below_up {n : Nat} {A B : World} (h : Below A.heap.size A B) (hn : n ≤ A.heap.size) : Below n A B := ⟨h.os, h.tape, h.output, h.size, fun k hk => h.block k (by omega)⟩
def HandsOn {α : Type} (m : Nat) (gf : Nat) (p : Value) (encs : α → Array Value) (N : Nat) (w : World) : Prop :=
 ∀ (l : Nat) (J : List α → World → Prop) (W : World), Below w.heap.size w W → (∀ s A B, J s A → Below A.heap.size A B → J s B) →
  (∀ pre x W1, J pre W1 → pre.length < N → YieldAt Fence.wide (m - 1) Tryz.prog l (encs x) W1 fun e W' => e = .returned (.bool true) ∧ J (pre ++ [x]) W' ∧ KC W1 W') → J [] W →
  CallsIn Fence.wide m Tryz.prog gf #[p, .func (.yield l) #[] #[]] W fun e W' => (∃ v, e = .returned v) ∧ ∃ xs, J xs W'
theorem range_bound {α : Type} {g : Operand} {ps : Array Tmp} {assign body : Code} {Q : Exit → Act → World → Prop} {a : Act} {w : World} {n gf : Nat} {p : Value} (hg : a.eval g = .func (.func gf) #[p] #[]) (eg : ∀ args w, (callFunc gf args).run Tryz.prog w = .ok (.enter gf args) w)
 {encs : α → Array Value} {N : Nat} (hseq : ∀ w', Below w.heap.size w w' → HandsOn (n - 1) gf p encs N w') (hps : ∀ x, (encs x).size = ps.size) (Ax : α → Act → World → Prop) (hAx : ∀ x a' A B, Ax x a' A → KC A B → Ax x a' B)
 (hassign : ∀ (l : Nat) (x : α) (W : World) (K : Act → World → Prop), Below w.heap.size w W → (∀ a' W', Below W.heap.size W W' → Ax x a' W' → K a' W') → assign.wpIn (Fence.wide.inRound l) (n - 1 - 1) Tryz.prog (Exit.then K (fun _ _ _ => False)) { tmps := (ps.zip (encs x)).foldl (fun t (p, v) => t.setIfInBounds p v) a.tmps, defers := [] } W)
 (hbody : ∀ (l : Nat) (x : α) (a' : Act) (W : World), Below w.heap.size w W → Ax x a' W → body.wpIn (Fence.wide.inRound l) (n - 1 - 1) Tryz.prog (fun e _ W' => e = .normal ∧ Below W.heap.size W W') a' W)
 (hdone : ∀ (D : Nat) (W : World), w.heap.size ≤ D → Below w.heap.size w W → W.heap[D]? = some (.deferred (some [])) → Q .normal { a with defers := { target := .collected D, args := #[] } :: a.defers } W) :
 (Code.rangeFunc g ps assign body).wpIn Fence.wide n Tryz.prog Q a w := by
 refine wpIn_rangeFunc fun fn hfn => ?_; obtain ⟨rec, hrec⟩ : ∃ rec : LoopState → Loop, rec = fun s => { state := s, pending := none, fn, tmps := a.tmps, params := ps, assign, body, defers := w.heap.size } := ⟨_, rfl⟩
 obtain ⟨W1, hW1⟩ : ∃ W1, (w.alloc (.deferred (some []))).alloc (.loop (rec .ready)) = W1 := ⟨_, rfl⟩
 have hL1 : W1.heap[w.heap.size + 1]? = some (.loop (rec .ready)) := by
  rw [← hW1]; have := World.alloc_heap_new (w.alloc (.deferred (some []))) (.loop (rec .ready)); rwa [World.size_alloc] at this
 have hK1 : W1.heap[w.heap.size]? = some (.deferred (some [])) := by
  rw [← hW1]; exact (Below.heap_alloc _ _ _ (by simp)).trans (World.alloc_heap_new w _)
 have hB1 : Below w.heap.size w W1 := by
  rw [← hW1]; exact ((BR _ w).alloc (NR _) _).alloc (by simp) _
 have hlt1 : w.heap.size + 1 < W1.heap.size := (ltA hL1); refine ⟨w.heap.size + 1, [{ target := .collected w.heap.size, args := #[] }], W1, { target := .fn (.func gf) #[], args := #[p, .func (.yield (w.heap.size + 1)) #[] #[]] }, W1, gf, #[p, .func (.yield (w.heap.size + 1)) #[] #[]], W1, ?_, ?_, ?_, ?_, fun h => by simp [Fence.wide] at h, ?_⟩
 · rw [← hW1, hrec]; exact run_enterLoop_outer _ _ _ _ _
 · simp only [resolve, hg]; simp [go_sem]
 · intro f' hf'; trivial
 · simp [invoke, go_sem, eg]
 · refine (hseq W1 hB1 (w.heap.size + 1) (fun _ W => Below w.heap.size w W ∧ W.heap[w.heap.size + 1]? = some (.loop (rec .ready)) ∧ W.heap[w.heap.size]? = some (.deferred (some []))) W1 (BR _ _) (fun s A B hs hb => ?_) ?_ ⟨hB1, hL1, hK1⟩).mono ?_
   · have := (ltA hs.2.1); exact ⟨hs.1.trans (below_up hb (by omega)), (hb.block _ this).trans hs.2.1, (hb.block _ (by omega)).trans hs.2.2⟩
   · rintro pre x W ⟨hb, hl, hk⟩ -; have hlt : w.heap.size + 1 < W.heap.size := (ltA hl); have hy := run_yield (P := Tryz.prog) (args := encs x) hl (by rw [hrec]; exact hps x); rw [hrec] at hy; refine ⟨fn, _, assign, body, hy, roundIn_of_wpIn hfn (hassign _ x W _ hb ?_)⟩; clear hy; intro a' Wa hba hax; replace hl := (hba.block _ hlt).trans hl; replace hk := (hba.block _ (by omega)).trans hk; have hlta : w.heap.size + 1 < Wa.heap.size := (ltA hl); refine ⟨_, run_beginRound hl (by rw [hrec]), ?_⟩; have hl2 : (Wa.putObj (w.heap.size + 1) (.loop { rec .ready with state := .busy })).heap[w.heap.size + 1]? = some (.loop { rec .ready with state := .busy }) := World.putObj_heap_same hlta; have hk2 : (Wa.putObj (w.heap.size + 1) (.loop { rec .ready with state := .busy })).heap[w.heap.size]? = some (.deferred (some [])) := (World.putObj_heap_other (by omega)).trans hk; have hkc2 : KC Wa (Wa.putObj (w.heap.size + 1) (.loop { rec .ready with state := .busy })) := KC.put _ hl rfl; have hb2 : Below w.heap.size w (Wa.putObj (w.heap.size + 1) (.loop { rec .ready with state := .busy })) := (hb.trans (below_up hba (by omega))).trans (below_put _ _ (by omega)); refine wpIn_mono (hbody _ x a' _ hb2 (hAx x a' _ _ hax hkc2)) ?_; rintro e a3 W3 ⟨rfl, hb3⟩; have hl3 := (hb3.block _ (ltA hl2)).trans hl2; have hk3 := (hb3.block _ (ltA hk2)).trans hk2; have hr := run_endRound (P := Tryz.prog) none hl3; refine ⟨_, _, hr, rfl, ⟨(hb2.trans (below_up hb3 (by simp; omega))).trans (below_put _ _ (by omega)), ?_, (World.putObj_heap_other (by omega)).trans hk3⟩, (((KC.of_below hba).trans hkc2).trans (KC.of_below hb3)).trans (KC.put _ hl3 rfl)⟩; rw [World.putObj_heap_same (ltA hl3), hrec]; rfl
   · rintro e W2 ⟨⟨v, rfl⟩, xs, hb, hl, hk⟩; have hend := run_endLoop (P := Tryz.prog) hl (by rw [hrec]; simp); rw [hrec] at hend; exact ⟨none, _, hend, hdone _ _ (NR _) (hb.trans (below_put _ _ (by omega))) ((World.putObj_heap_other (by omega)).trans hk)⟩
end
def EntAt (W : World) (v : Value) (n : Nat) : Prop := ∃ A c, v = .slice A n c ∧ ∀ k : Nat, k < n → ∃ g, A = some ⟨g, 0, none⟩ ∧ W.cell? ⟨g, k * 3, none⟩ = some (.slice none 0 0) ∧ W.cell? ⟨g, k * 3 + 1, none⟩ = some (.slice none 0 0) ∧ W.cell? ⟨g, k * 3 + 2, none⟩ = some (O Y 0)
theorem EntAt.step {W W' : World} {v : Value} {n : Nat} (h : EntAt W v n) (hb : Below W.heap.size W W') : EntAt W' v n := by
 obtain ⟨A, c, rfl, h1⟩ := h; refine ⟨A, c, rfl, fun k hk => ?_⟩; obtain ⟨g, hA, h2, h3, h4⟩ := h1 k hk; exact ⟨g, hA, cell_keep hb (NR _) h2, cell_keep hb (NR _) h3, cell_keep hb (NR _) h4⟩
def sE (N : Nat) : Nat → ByteArray
 | 0 => putS (N : Int)
 | k + 1 => (sE N k ++ putS 0) ++ (catS (putS 0) [] ++ putS 0)
theorem sE_size (N : Nat) (hN : N ≤ 5000) : ∀ k, (sE N k).size ≤ 11 + 33 * k
 | 0 => putS_size _ (by omega)
 | k + 1 => by
  have h1 := sE_size N hN k; have h2 := putS_size 0 (by decide); have h3 : (catS (putS 0) []).size ≤ 11 := putS_size 0 (by decide); simp only [sE, ByteArray.size_append]; omega
theorem eright_any {v : Value} {n : Nat} {W : World} (h : EntAt W v n) (hn : n ≤ 5000) : Calls Tryz.prog 53 #[v] W fun e w' => e = .returned (.bool true) ∧ Below W.heap.size W w' := by
 have H0 := ZZ h; obtain ⟨A, c, rfl, -⟩ := id h; clear h; go_enter Tryz.func53, Tryz.ntmps53; go_wp2_with fail; go_loopw [7] (fun vi wr => ∃ k : Nat, k ≤ n ∧ vi = O Y k ∧ Below W.heap.size W wr) (fun vi _ => n - (intOf vi).toNat); case atStart => exact ⟨0, Nat.zero_le _, rfl, BR _ _⟩
 case round =>
  obtain ⟨k, hk, rfl, hb⟩ := hrel; by_cases hlt : k < n
  · obtain ⟨A', c', e, hc⟩ := H0.out.step hb; injection e with e1 _ _
    subst e1; obtain ⟨g, rfl, x0, x1, x2⟩ := hc k hlt; have b1 : (k : Int) < (n : Int) := by omega
    replace hb := ZZ hb; go_wp2_with fail; go_roundw; case rel => exact ⟨k + 1, by omega, by go_num, hb.out.alloc hb.out.size _⟩
    case measure => simp [intOf]; omega
  · obtain rfl : k = n := by omega
    have b2 : (k : Int) ≤ 5000 := by omega
    replace hb := ZZ hb; go_wp2_with fail; go_ret; exact ⟨by simp <;> omega, hb.out⟩
theorem eenc_any {v : Value} {n : Nat} {W : World} (h : EntAt W v n) (hn : n ≤ 5000) : Calls Tryz.prog 22 #[v] W fun e w' => e = .returned (.string (sE n n)) ∧ Below W.heap.size W w' := by
 have H0 := ZZ h; obtain ⟨A, c, rfl, -⟩ := id h; have hR := ZZ (eright_any h hn); have hP0 := fun w => ZZ (put_any (n : Int) w (by omega)); have hPz := fun w => ZZ (put_any 0 w (by decide)); have hLz := fun w => ZZ (list_any (.slice none 0 0) [] w ⟨none, 0, rfl, NR _, by simp, fun j u hj => by simp at hj⟩ (by simp [Small]) (by decide)); have hsz0 := ZZ (putS_size 0 (by decide)); have hsz1 := ZZ (show (catS (putS 0) []).size ≤ 11 from putS_size 0 (by decide)); have hE0 := ZZ (show putS (n : Int) = sE n 0 from rfl); have hES := fun k => ZZ (show (sE n k ++ putS 0) ++ (catS (putS 0) [] ++ putS 0) = sE n (k + 1) from rfl); have hEz := fun k => ZZ (sE_size n hn k); clear h; replace hP0 := ZZ hP0; replace hPz := ZZ hPz; replace hLz := ZZ hLz; generalize putS 0 = p0 at *; generalize hq0 : catS p0 [] = q0 at *; replace hq0 := ZZ hq0; go_enter Tryz.func22, Tryz.ntmps22; go_wp2_with fail; refine hR.out.mono ?_; rintro e w1 ⟨rfl, hb1⟩; replace hb1 := ZZ hb1; go_wp2_with fail; refine (hP0.out _).out.mono ?_; rintro e w2 ⟨rfl, hb2⟩; replace hb2 := ZZ (hb1.out.trans (below_up hb2 hb1.out.size)); rw [hE0.out]; go_wp2_with fail; go_loopw [3, 16] (fun vs vi wr => ∃ k : Nat, k ≤ n ∧ vs = .string (sE n k) ∧ vi = O Y k ∧ Below W.heap.size W wr) (fun _ vi _ => n - (intOf vi).toNat); case atStart => exact ⟨0, Nat.zero_le _, rfl, rfl, hb2.out⟩
 case round =>
  obtain ⟨k, hk, rfl, rfl, hb⟩ := hrel; clear hb1 hb2 hR hP0 hE0; by_cases hlt : k < n
  · obtain ⟨A', c', e, hc⟩ := H0.out.step hb; injection e with e1 _ e3
    subst e1; subst e3; obtain ⟨g, rfl, x0, x1, x2⟩ := hc k hlt; have b1 : (k : Int) < (n : Int) := by omega
    have hz := ZZ (hEz k).out; have hS := ZZ (hES k).out; clear hc; generalize sE n k = sk at *; replace hb := ZZ hb; have t1 : ¬ 9223372036854775807 < sk.size + p0.size := by have := hz.out; have := hsz0.out; omega
    have t2 : ¬ 9223372036854775807 < q0.size + p0.size := by have := hsz1.out; have := hsz0.out; omega
    have t3 : ¬ 9223372036854775807 < sk.size + p0.size + (q0.size + p0.size) := by have := hz.out; have := hsz1.out; have := hsz0.out; omega
    go_wp2_with fail; have hba := (BR wr.heap.size wr).alloc (NR _) (.cells #[.slice none 0 0, .slice none 0 0, O Y 0] 62); have hnew := heap_alloc_new wr (.cells #[.slice none 0 0, .slice none 0 0, O Y 0] 62); obtain ⟨gb, hgb⟩ : ∃ gb, wr.heap.size = gb := ⟨_, rfl⟩
    have hbW : Below W.heap.size W (wr.alloc (.cells #[.slice none 0 0, .slice none 0 0, O Y 0] 62)) := hb.out.trans (below_up hba hb.out.size); obtain ⟨Wa, ea⟩ : ∃ Wa, wr.alloc (.cells #[.slice none 0 0, .slice none 0 0, O Y 0] 62) = Wa := ⟨_, rfl⟩
    rw [ea] at hnew hbW; rw [hgb] at hnew; rw [ea, hgb]; refine (hPz.out _).out.mono ?_; rintro e w3 ⟨rfl, hb3⟩; have hn3 := (hb3.block gb (ltA hnew)).trans hnew; have hb3W := hbW.trans (below_up hb3 hbW.size); have y0 := bk hn3 0 (.slice none 0 0); have y1 := bk hn3 1 (.slice none 0 0); replace hgb := ZZ hgb; replace ea := ZZ ea; replace hn3 := ZZ hn3; replace hb3W := ZZ hb3W; clear hba hnew hbW hb3 x0 x1 x2; go_wp2_with fail; go_loopw [3, 29] (fun vs vi wr' => vs = .string (sk ++ p0) ∧ vi = O Y 0 ∧ wr' = w3) (fun _ _ _ => 0); case atStart => exact ⟨rfl, rfl, rfl⟩
    case round =>
     obtain ⟨rfl, rfl, hw⟩ := hrel; rw [hw]; go_wp2_with fail; have z1 : w3.drew.cell? ⟨gb, 1, none⟩ = some (.slice none 0 0) := y1; have z2 : w3.drew.cell? ⟨gb, 2, none⟩ = some (O Y 0) := (blk_cell hn3.out 2).trans rfl; have hbd := ZZ hb3W.out.drew; clear y0 y1 hw hn3 hb3W; refine st 10 (S := fun w' => w'.cell? ⟨gb, 1, none⟩ = some (.slice none 0 0) ∧ w'.cell? ⟨gb, 2, none⟩ = some (O Y 0)) (ds := []) ⟨z1, z2⟩ (fun hHeld => ?_); generalize w3.drew = wq at *; refine pq 0 ?_; refine pq 1 ?_; refine pq 4 ?_; refine tk 2 hHeld ?_; refine tk 5 hHeld ?_; refine rg1 3 (fun K hK => ?_); refine goes_ Tryz.func29 (by kernel_rfl) rfl #[.slice none 0 0] (by rfl) rfl rfl (by (try simp only [MA, List.map_cons, List.map_nil]); first | done | rfl) ?_; refine (hLz.out _).out.mono ?_; rintro e w4 ⟨rfl, hb4⟩; refine ⟨_, rfl, ?_⟩; have hb4W := ZZ (hbd.out.trans (below_up hb4 hbd.out.size)); refine hK.out _ _ ⟨cell_keep hb4 (NR _) hHeld.1, cell_keep hb4 (NR _) hHeld.2⟩ (fun hHeld => ?_); clear hK K; refine nm ?_; clear hb4; refine rg1 6 (fun K hK => ?_); refine goes_ Tryz.func54 (by kernel_rfl) rfl #[O Y 0] (by rfl) rfl rfl (by (try simp only [MA, List.map_cons, List.map_nil]); first | done | rfl) ?_; refine (hPz.out _).out.mono ?_; rintro e w5 ⟨rfl, hb5⟩; refine ⟨_, rfl, ?_⟩; have hb5W := ZZ (hb4W.out.trans (below_up hb5 hb4W.out.size)); refine hK.out _ _ ⟨cell_keep hb5 (NR _) hHeld.1, cell_keep hb5 (NR _) hHeld.2⟩ (fun hHeld => ?_); clear hK K; refine nm ?_; clear hb5; refine pq 7 ?_; refine pq 8 ?_; refine pq 9 ?_; refine dn ?_; go_wp2_with fail; go_roundw; case rel => exact ⟨k + 1, by omega, by rw [hS.out], by go_num, hb5W.out⟩
     case measure => simp [intOf]; omega
  · obtain rfl : k = n := by omega
    replace hb := ZZ hb; go_wp2_with fail; go_ret; exact ⟨rfl, hb.out⟩
def RsAt (W : World) (g : Nat) (s : ByteArray) (at_ : Nat) : Prop := W.heap[g]? = some (.cells #[.string s, O Y at_, O Y 0] 195 (0, 0))
theorem RsAt.cells {W : World} {g : Nat} {s : ByteArray} {at_ : Nat} (h : RsAt W g s at_) : W.cell? ⟨g, 0, none⟩ = some (.string s) ∧ W.cell? ⟨g, 1, none⟩ = some (O Y at_) ∧ W.cell? ⟨g, 2, none⟩ = some (O Y 0) ∧ (∀ i, W.frozen? ⟨g, i, none⟩ = false) :=
 ⟨(blk_cell h 0).trans rfl, (blk_cell h 1).trans rfl, (blk_cell h 2).trans rfl, fun i => blk_frozen h i⟩
theorem RsAt.lt {W : World} {g : Nat} {s : ByteArray} {at_ : Nat} (h : RsAt W g s at_) : g < W.heap.size := ltA h
theorem RsAt.step {W W' : World} {g : Nat} {s : ByteArray} {at_ : Nat} (h : RsAt W g s at_) (hb : Below W.heap.size W W') : RsAt W' g s at_ := (hb.block g h.lt).trans h
theorem RsAt.put {W : World} {g : Nat} {s : ByteArray} {at_ : Nat} (h : RsAt W g s at_) (k : Nat) : RsAt ((W.setCell ⟨g, 1, none⟩ (O Y k)).setCell ⟨g, 2, none⟩ (O Y 0)) g s k := blk_set (blk_set h 1 _) 2 _
theorem snum_any (g : Nat) (s : ByteArray) (at_ : Nat) (n : Int) (hn : Sm n) (h : Sub s at_ (putS n)) (w : World) (hr : RsAt w g s at_) (hs : s.size ≤ 1000000000) : Calls Tryz.prog 132 #[.pointer (some ⟨g, 0, none⟩)] w fun e w' => e = .returned (O Y n) ∧ RsAt w' g s (at_ + (putS n).size) ∧ Keeps [g] w w' := by
 obtain ⟨c0, c1, c2, -⟩ := hr.cells; have hR := ZZ hr; clear hr; go_enter Tryz.func132, Tryz.ntmps132; go_wp2_with fail; refine st 22 (S := fun w' => w'.cell? ⟨g, 0, none⟩ = some (.string s) ∧ w'.cell? ⟨g, 1, none⟩ = some (O Y at_)) (ds := [10, 18, 21]) ⟨c0, c1⟩ (fun hHeld => ?_); refine pq 0 ?_; refine pq 1 ?_; refine pq 2 ?_; refine pq 3 ?_; refine pq 4 ?_; refine pq 6 ?_; refine pq 7 ?_; refine pq 8 ?_; refine tk 5 hHeld ?_; refine tk 9 hHeld ?_; refine rg2 10 (fun K hK => ?_); refine goes_ Tryz.func136 (by kernel_rfl) rfl #[.string s, O Y at_] (by rfl) rfl rfl (by (try simp only [MA, List.map_cons, List.map_nil]); first | done | rfl) ?_; refine (get_sub s at_ n _ hn h hs).mono ?_; rintro e w1 ⟨rfl, hb⟩; refine ⟨_, rfl, ?_⟩; have hR1 := hR.out.step ((BR _ _).drew.trans hb); have hK1 := ZZ ((Keeps.of_below ((BR w.heap.size w).drew.trans hb) [g])); obtain ⟨-, x1, x2, hfr⟩ := hR1.cells; have f1 := hfr 1; have f2 := hfr 2; have hR2 := ZZ hR1; clear hR1 hfr hb; refine hK.out _ _ ?_; clear hK K; refine nm ?_; refine pq 11 ?_; refine pq 12 ?_; refine pq 13 ?_; refine pq 14 ?_; refine pq 15 ?_; refine pq 16 ?_; refine pq 17 ?_; refine rg2 18 (fun K hK => ?_); refine skip_ (w1 := ?_) (by rfl) rfl ?_ ?_; rotate_left
 · go_simp; rfl
 refine hK.out _ _ ?_; clear hK K; refine pq 19 ?_; refine pq 20 ?_; refine rg2 21 (fun K hK => ?_); refine skip_ (w1 := ?_) (by rfl) rfl ?_ ?_; rotate_left
 · go_simp; rfl
 refine hK.out _ _ ?_; clear hK K; refine dn ?_; have hB2 := Keeps.setCell (Keeps.setCell hK1.out g 1 (O Y ((at_ + (putS n).size : Nat) : Int)) (.inl (by simp))) g 2 (O Y 0) (.inl (by simp)); go_wp2_with fail; go_ret; exact ⟨rfl, hR2.out.put _, hB2⟩
theorem smany_any (g : Nat) (s : ByteArray) (at_ : Nat) (n lim : Int) (w : World) (hr : RsAt w g s at_) (hn : Sm n) (h0 : 0 ≤ n) (hl : n ≤ lim) (h : Sub s at_ (putS n)) (hs : s.size ≤ 1000000000) : Calls Tryz.prog 86 #[.pointer (some ⟨g, 0, none⟩), O Y lim] w fun e w' => e = .returned (O Y n) ∧ RsAt w' g s (at_ + (putS n).size) ∧ Keeps [g] w w' := by
 have hN := ZZ (snum_any g s at_ n hn h w hr hs); have d0 : decide (n < 0) = false := decide_eq_false (by omega); have d1 : decide (lim < n) = false := decide_eq_false (by omega); have d2 : ¬ n < 0 := by omega
 have d3 : ¬ lim < n := by omega
 clear hr h hl h0; go_enter Tryz.func86, Tryz.ntmps86; go_wp2_with fail; refine hN.out.mono ?_; rintro e w1 ⟨rfl, hr, hk⟩; obtain ⟨-, -, c2, -⟩ := hr.cells; replace hr := ZZ hr; replace hk := ZZ hk; go_wp2_with fail; go_ret; exact ⟨rfl, hr.out, hk.out⟩
def eS : ByteArray := putS 0 ++ (listS [] ++ putS 0)
theorem keeps_blk {S : List Nat} {W W' : World} {k : Nat} {o : Obj} (h : Keeps S W W') (hk : W.heap[k]? = some o) (hn : k ∉ S) : W'.heap[k]? = some o := (h.block k (ltA hk) hn).trans hk
theorem keeps_rowN {S : List Nat} {w w1 : World} (h : Keeps S w w1) (g : Nat) (cs : Array Value) (hg : w.heap.size ≤ g) : Keeps S w (w1.setRow g cs) := ⟨h.os, h.tape, h.output, by rw [setRow_size]; exact h.size, fun j hj hn => (setRow_other w1 g j cs (by omega)).trans (h.block j hj hn)⟩
theorem sentry_any (g : Nat) (s : ByteArray) (at_ : Nat) (w : World) (hr : RsAt w g s at_) (h : Sub s at_ eS) (hs : s.size ≤ 1000000000) : Calls Tryz.prog 87 #[.pointer (some ⟨g, 0, none⟩)] w fun e w' => (∃ A c, e = .returned (.agg #[.slice none 0 0, .slice A 0 c, O Y 0])) ∧ RsAt w' g s (at_ + eS.size) ∧ Keeps [g] w w' := by
 have hgl := hr.lt; have hb1 := ((BR w.heap.size w).alloc (NR _) (.cells #[.slice none 0 0, .slice none 0 0, O Y 0] 62)).alloc (by simp) (.cells #[.slice none 0 0, .slice none 0 0, O Y 0] 62); have B2 := (Below.heap_alloc (w.alloc (.cells #[.slice none 0 0, .slice none 0 0, O Y 0] 62)) (.cells #[.slice none 0 0, .slice none 0 0, O Y 0] 62) w.heap.size (by simp)).trans (heap_alloc_new w (.cells #[.slice none 0 0, .slice none 0 0, O Y 0] 62)); have B3 := heap_alloc_new (w.alloc (.cells #[.slice none 0 0, .slice none 0 0, O Y 0] 62)) (.cells #[.slice none 0 0, .slice none 0 0, O Y 0] 62); rw [World.size_alloc] at B3; obtain ⟨gb2, hg2⟩ : ∃ x, w.heap.size = x := ⟨_, rfl⟩
 obtain ⟨W1, e1⟩ : ∃ W1, (w.alloc (.cells #[.slice none 0 0, .slice none 0 0, O Y 0] 62)).alloc (.cells #[.slice none 0 0, .slice none 0 0, O Y 0] 62) = W1 := ⟨_, rfl⟩
 rw [hg2] at B3; rw [hg2] at B2; rw [e1] at hb1 B2 B3; have hr1 := hr.step hb1; have hk1 := ZZ (Keeps.of_below hb1 [g]); have hM := ZZ (smany_any g s at_ 0 16 W1 hr1 ⟨by decide, by decide⟩ (by decide) (by decide) h.left hs); obtain ⟨a1, ha1⟩ : ∃ a1, at_ + (putS 0).size = a1 := ⟨_, rfl⟩
 have h2 := h.right; rw [ha1] at hM h2; have hLs := ZZ (fun w => ZZ (getlist_any s a1 [] 8 w (by simp [Small]) (by decide) (by decide) h2.left hs)); have h3 := h2.right; obtain ⟨a2, ha2⟩ : ∃ a2, a1 + (listS []).size = a2 := ⟨_, rfl⟩
 rw [ha2] at h3; have hend : at_ + eS.size = a2 + (putS 0).size := by rw [← ha2, ← ha1]; simp only [eS, ByteArray.size_append]; omega
 have hNm := ZZ (fun w hr => ZZ (snum_any g s a2 0 ⟨by decide, by decide⟩ h3 w hr hs)); replace h3 := ZZ h3; have hne2 : gb2 ∉ [g] := by simp; omega
 have hne3 : (gb2 + 1) ∉ [g] := by simp; omega
 have hbw := ZZ hb1; have ne1 : ¬ g = gb2 + 1 := by omega
 have ne2 : ¬ gb2 + 1 = g := by omega
 have ne3 : g ≠ gb2 + 1 := by omega
 have ne4 : gb2 + 1 ≠ g := by omega
 clear hr hr1 h h2 hb1; go_enter Tryz.func87, Tryz.ntmps87; go_wp2_with fail; replace e1 := ZZ e1; replace hg2 := ZZ hg2; refine hM.out.mono ?_; rintro e w2 ⟨rfl, hr2, hkk⟩; have B2b := keeps_blk hkk B2 hne2; have B3b := keeps_blk hkk B3 hne3; have hk2 := ZZ (hk1.out.trans hkk); replace hr2 := ZZ hr2; clear hkk B2 B3 hk1 hM; go_wp2_with fail; go_loopw [7] (fun vi wr => vi = O Y 0 ∧ wr = w2) (fun _ _ => 0); case atStart => exact ⟨rfl, rfl⟩
 case round =>
  obtain ⟨rfl, hw⟩ := hrel; rw [hw]; obtain ⟨c0, c1, c2, -⟩ := hr2.out.cells; go_wp2_with fail; refine st 23 (S := fun w' => w'.cell? ⟨g, 0, none⟩ = some (.string s) ∧ w'.cell? ⟨g, 1, none⟩ = some (O Y a1)) (ds := [10, 16, 19, 22]) ⟨c0, c1⟩ (fun hHeld => ?_); refine pq 0 ?_; refine pq 1 ?_; refine pq 2 ?_; refine pq 3 ?_; refine pq 4 ?_; refine pq 6 ?_; refine pq 7 ?_; refine pq 8 ?_; refine tk 5 hHeld ?_; refine tk 9 hHeld ?_; refine rg2 10 (fun K hK => ?_); refine goes_ Tryz.func133 (by kernel_rfl) rfl #[.string s, O Y a1, O Y 8] (by rfl) rfl rfl (by (try simp only [MA, List.map_cons, List.map_nil]); first | done | rfl) ?_; refine ((hLs.out _).out).mono ?_; rintro e w3 ⟨v, rfl, hrow, hb3⟩; refine ⟨_, rfl, ?_⟩; obtain ⟨Aj, cj, rfl, -⟩ := LRow.slice hrow; have hd3 := (BR w2.heap.size w2).drew.trans hb3; have hr3 := hr2.out.step hd3; have hk3 := ZZ (hk2.out.trans (Keeps.of_below (below_up hd3 (NR _)) [g])); have B2c := (hd3.block gb2 (ltA B2b)).trans B2b; have B3c := (hd3.block (gb2 + 1) (ltA B3b)).trans B3b; have m1 := bk B3c 1 (.slice none 0 0); have n1 := blk_frozen B3c 1; obtain ⟨-, o1, o2, ofr⟩ := hr3.cells; have p1 := ofr 1; have p2 := ofr 2; refine hK.out _ _ ?_; clear hK K; refine nm ?_; refine pq 11 ?_; refine pq 12 ?_; refine pq 13 ?_; refine pq 14 ?_; refine pq 15 ?_; refine rg2 16 (fun K hK => ?_); refine skip_ (w1 := ?_) (by rfl) rfl ?_ ?_; rotate_left
  · go_simp; rfl
  refine hK.out _ _ ?_; clear hK K; refine pq 17 ?_; refine pq 18 ?_; refine rg2 19 (fun K hK => ?_); refine skip_ (w1 := ?_) (by rfl) rfl ?_ ?_; rotate_left
  · go_simp; rfl
  refine hK.out _ _ ?_; clear hK K; refine pq 20 ?_; refine pq 21 ?_; refine rg2 22 (fun K hK => ?_); refine skip_ (w1 := ?_) (by rfl) rfl ?_ ?_; rotate_left
  · go_simp; rfl
  refine hK.out _ _ ?_; clear hK K; refine dn ?_; have ka := Keeps.setCell (Keeps.refl [gb2 + 1] w3) (gb2 + 1) 1 (.slice Aj 0 cj) (.inl (by simp)); have kb := Keeps.set2 (w3.setCell ⟨gb2 + 1, 1, none⟩ (.slice Aj 0 cj)) g 1 2 (O Y (a2 : Int)) (O Y 0); have hr4 : RsAt (w3.setCell ⟨gb2 + 1, 1, none⟩ (.slice Aj 0 cj)) g s a1 := keeps_blk ka hr3 (by simp; omega); have hr5 := hr4.put a2; have B3d := keeps_blk kb (blk_set B3c 1 (.slice Aj 0 cj)) hne3; have B2d := keeps_blk kb (keeps_blk ka B2c (by simp)) hne2; have hk5 := Keeps.setCell (Keeps.setCell (Keeps.setCell hk3.out (gb2 + 1) 1 (.slice Aj 0 cj) (.inr (by have := hg2.out; omega))) g 1 (O Y (a2 : Int)) (.inl (by simp))) g 2 (O Y 0) (.inl (by simp)); obtain ⟨W5, e5⟩ : ∃ W5, ((w3.setCell ⟨gb2 + 1, 1, none⟩ (.slice Aj 0 cj)).setCell ⟨g, 1, none⟩ (O Y (a2 : Int))).setCell ⟨g, 2, none⟩ (O Y 0) = W5 := ⟨_, rfl⟩
  rw [e5] at hr5 B3d B2d hk5; rw [e5]; have hN := ZZ (hNm.out W5 hr5).out; replace hk5 := ZZ hk5; clear hHeld ka kb hr4 hr5 e5 hr3 hk3 B2c B3c m1 n1 o1 o2 ofr p1 p2 hd3 hb3 hrow hw c0 c1 c2 B2b B3b; go_wp2_with fail; refine hN.out.mono ?_; rintro e w6 ⟨rfl, hr6, hk6⟩; have B3e := keeps_blk hk6 B3d hne3; have B2e := keeps_blk hk6 B2d hne2; have hk7 := ZZ (hk5.out.trans hk6); have x2 := bk B3e 2 (O Y 0); have y2 := blk_frozen B3e 2; have ks := Keeps.setCell (Keeps.refl [gb2 + 1] w6) (gb2 + 1) 2 (O Y 0) (.inl (by simp)); have B3f := blk_set B3e 2 (O Y 0); replace B3f : (w6.setCell ⟨gb2 + 1, 2, none⟩ (O Y 0)).heap[gb2 + 1]? = some (.cells #[.slice none 0 0, .slice Aj 0 cj, O Y 0] 62 (0, 0)) := B3f; have B2f := keeps_blk ks B2e (by simp); have hr7 : RsAt (w6.setCell ⟨gb2 + 1, 2, none⟩ (O Y 0)) g s (a2 + (putS 0).size) := keeps_blk ks hr6 (by simp; omega); have hk8 := Keeps.setCell hk7.out (gb2 + 1) 2 (O Y 0) (.inr (by have := hg2.out; omega)); have q0 := bk B3f 0 (.slice none 0 0); have q1 := bk B3f 1 (.slice Aj 0 cj); have q2 := bk B3f 2 (O Y 0); have hs62 : (Tryz.prog.info? 62).map (·.size) = some 3 := by kernel_rfl
  have B2g := setRow_heap _ gb2 _ #[.slice none 0 0, .slice Aj 0 cj, O Y 0] 62 (0, 0) B2f; have hk9 := keeps_rowN hk8 gb2 #[.slice none 0 0, .slice Aj 0 cj, O Y 0] (by have := hg2.out; omega); have hr9 : RsAt ((w6.setCell ⟨gb2 + 1, 2, none⟩ (O Y 0)).setRow gb2 #[.slice none 0 0, .slice Aj 0 cj, O Y 0]) g s (a2 + (putS 0).size) := (setRow_other _ gb2 g _ (by have := hg2.out; omega)).trans hr7; replace hr9 := ZZ hr9; replace hk9 := ZZ hk9; replace B2f := ZZ B2f; replace B2g := ZZ B2g; clear B3e B2e B3f hr7 hk8 ks hr6 hk6 B3d B2d; go_wp2_with (first | (refine wpList_store_row rfl 62 (.tmp 2) (.tmp 49) rfl gb2 #[.slice none 0 0, .slice Aj 0 cj, O Y 0] rfl rfl 62 _ B2f.out hs62 rfl (by simp [Value.oneCell']) ?_) | fail)
  refine bodyPost_ret (results_cell_row rfl _ _ gb2 62 _ (0, 0) _ rfl B2g.out Tryz.underlying62 rfl hs62) rfl ?_; exact ⟨⟨Aj, cj, rfl⟩, by rw [hend]; exact hr9.out, hk9.out⟩
end Go.Proofs.YtoopeamoejmjeaaGreat.Tp
