/- For the law PlainBlocks, for every input: printed by a program (wip/myprint), contracts by hand where it says MANUAL. -/
-- slim5
-- slim
import Derived.Test.YtdiaedecnfbgdaaPPlainBlocksx0
import Derived.Test.YtdiaedecnfbgdaaPPlainBlocksx10
import Derived.Test.YtdiaedecnfbgdaaPPlainBlocksx9
namespace Go.Proofs.Ytdiaedecnfbgdaa.PPlainBlocks
open Go.RowKit Go.Proofs.YtdiaedecnfbgdaaW.PrintWords Go.Proofs.YtdiaedecnfbgdaaW.PrintLast Go.Proofs.YtdiaedecnfbgdaaW.PrintMore
attribute [local go_sem] max2_int min2_int max_two min_two max_three min_three max_four min_four
set_option linter.unusedVariables false
set_option linter.unusedSimpArgs false
/-! ### plain_walker_end: function 56 -/
-- MANUAL: this contract was written by hand.
open Go.Proofs.YtdiaedecnfbgdaaW.Mine
/-- Where a walk is. -/
def plEnd (l : List S30) (s : Int) (walk : List Int) : Int := if walk.length = 0 then s else lvTo l (rd walk ((walk.length : Int) - 1))
set_option maxHeartbeats 8000000 in
set_option maxRecDepth 100000 in
theorem plEnd_calls {own : Nat → Nat} {w0 w : World} {gw : Nat} {n s t : Int} {A3 : Option Addr} {c3 : Nat} {l : List (S30)} {vr : Value} {room : List Int} {least : Int} {gt m : Nat} {ts : List (List Int)} {vw : Value} {walk : List Int}
  (HR : Kd.C k30 w0 A3 l.length l) (HC : l.length ≤ c3) (hf : lvFit n s l room = true) (hw : ∀ r ∈ walk, 0 ≤ r ∧ r < (room.length : Int)) (hwl1 : walk.length ≤ 2000000)
  (h : Pl 98 2 3 22 own w0 w gw (.int .i64 n) (.int .i64 s) (.int .i64 t) (.slice A3 l.length c3) vr room least gt m ts vw walk) :
  Calls Try.prog 56 #[.pointer (some ⟨gw, 0, none⟩)] w fun e w' => e = .returned (.int .i64 (plEnd l s walk)) ∧ Below w.heap.size w w' := by
 (have hu26 := Try.underlying26); (have hu28 := Try.underlying30); (have hu98 := Try.underlying98); (obtain ⟨Aw, cw, ew⟩ := Kd.R_slice h.walk); subst ew; (have h7 := h.g7); (by_cases hz : walk.length = 0); (·(have h1 := h.g1); (have he : plEnd l s walk = s := if_pos hz); (rw [hz] at h7); (go_enter Try.func56, Try.ntmps56); (go_wp2); (go_ret); (exact ⟨by rw [he]; rfl, Below.refl _ _⟩))
 ·obtain ⟨p, hp⟩ : ∃ p : Nat, walk.length = p + 1 := ⟨walk.length - 1, by omega⟩
  (have hpw : p < walk.length := by omega); (obtain ⟨g9, hg9, hrd⟩ := Rw.read h.walk hpw); subst hg9; (have hrn := hw walk[p] (List.getElem_mem hpw)); (obtain ⟨r, hr⟩ : ∃ r : Nat, walk[p] = (r : Int) := ⟨(walk[p]).toNat, by omega⟩); (have hwl : wrap64 ((walk.length : Int) - 1) = (p : Int) := by unfold wrap64; omega); (have hwi : IntKind.i64.wrap ((walk.length : Int) - 1) = (p : Int) := by rw [IntKind.wrap_i64]; omega)
  have he : plEnd l s walk = lvTo l (r : Int) := by
   ((have e1 : (walk.length : Int) - 1 = (p : Int) := by omega);(rw [plEnd, if_neg hz, e1, ← hr])); (simp [rd, hpw])
  (rw [hr] at hrn hrd); (have hf2 := hf); (simp only [lvFit, Bool.and_eq_true, decide_eq_true_eq] at hf2); (obtain ⟨⟨f0, f1, f2, f3, f4, f5⟩, -⟩ := hf2); (have hr0 : (0 : Int) ≤ (r : Int) := by omega); (have HE := Aside0.mk (lvEnds (n := n) (s := s) (t := t) (r := (r : Int)) (l := l) hr0 (by omega) f4)); (obtain ⟨z, hz3⟩ : ∃ z, lvFrom l (r : Int) = z := ⟨_, rfl⟩); (obtain ⟨y, hy3⟩ : ∃ y, lvTo l (r : Int) = y := ⟨_, rfl⟩); (rw [hz3, hy3] at HE); (rw [hy3] at he); (have hz1 : ((walk.length : Int) == 0) = false := beq_eq_false_iff_ne.mpr (by omega)); (have hp0 : (0 : Int) ≤ (p : Int) := by omega); (have hp1 : (p : Int) < (walk.length : Int) := by omega); (have h0 := h.g0); (have h1 := h.g1); (have h2 := h.g2); (have h3 := h.g3); (have HH := Aside0.mk h); (have HRR := Aside0.mk HR); (have HW := Aside0.mk (Below.refl w.heap.size w)); clear h HR hf hw hp hpw hr hrn hz f0 f1 f2 f3 f4 f5 hz3 hy3 hr0; (go_enter Try.func56, Try.ntmps56); (go_wp2_with fail); (go_region_with (go_at_call 49; refine (residual_Ends.calls 1 n s t A3 c3 l (r : Int) z y _ ?s1 HC HE.out).mono ?_; (case s1 => exact Kd.C_below HRR.out (by repeat (first | (with_reducible first | exact HH.out.below | apply below_alloc | apply pw_below_drewN | apply below_drew1) | exact HH.out.below))); rintro e w5 ⟨rfl, hb⟩; have HB := Aside0.mk (below_step (by repeat (first | (with_reducible first | exact HW.out | apply below_alloc | apply pw_below_drewN | apply below_drew1) | exact HW.out)) hb); clear hb)); (all_goals (try go_wp2)); (all_goals go_ret); (all_goals exact ⟨by rw [he]; rfl, by repeat (first | (with_reducible first | exact HB.out | apply below_alloc | apply pw_below_drewN | apply below_drew1 | apply below_drew) | exact HB.out)⟩)
/-! ### plain_walker_next: function 46 -/
-- MANUAL: this contract was written by hand.
open Go.Proofs.YtdiaedecnfbgdaaW.Mine
/-- The next walk that leads to the sink. -/
def plNext (l : List S30) (s t least : Int) (room : List Int) : Nat → List (List Int) → List Int → Option (Bool × List (List Int) × List Int)
 | 0, _, _ => none
 | f + 1, ts, walk =>
  if plEnd l s walk = t then some (true, ts, walk)
  else match ts.getD (plEnd l s walk).toNat [] with
   | r :: rs => if least ≤ rd room r then (if walk.length ≤ 1000000 then plNext l s t least room f ts (walk ++ [r]) else none) else plNext l s t least room f (ts.set (plEnd l s walk).toNat rs) walk
   | [] => if walk.length = 0 then some (false, ts, walk)
    else match ts.getD (plEnd l s (walk.take (walk.length - 1))).toNat [] with
     | [] => none
     | _ :: qs => plNext l s t least room f (ts.set (plEnd l s (walk.take (walk.length - 1))).toNat qs) (walk.take (walk.length - 1))
theorem plNext.mono (l : List S30) (s t least : Int) (room : List Int) : ∀ (f : Nat) (ts : List (List Int)) (walk : List Int), LeO (plNext l s t least room f ts walk) (plNext l s t least room (f + 1) ts walk)
 | 0, _, _ => fun r h => by simp [plNext] at h
 | f + 1, ts, walk => by
  (rw [plNext, plNext]); (refine LeO.ite (LeO.refl _) ?_)
  split
  ·exact LeO.ite (LeO.ite (plNext.mono l s t least room f _ _) (LeO.none _)) (plNext.mono l s t least room f _ _)
  ·refine LeO.ite (LeO.refl _) ?_
   split
   ·exact LeO.none _
   ·exact plNext.mono l s t least room f _ _
/-- What holds of the tracks that are left, and of the walk. -/
structure PlW (n : Int) (m k : Nat) (ts : List (List Int)) (walk : List Int) : Prop where
 mn : (m : Int) = n + 1
 tsl : ts.length = m
 tin : ∀ (v : Nat) (x : List Int), ts[v]? = some x → ∀ r ∈ x, 0 ≤ r ∧ r < (k : Int)
 win : ∀ r ∈ walk, 0 ≤ r ∧ r < (k : Int)
 wl : walk.length ≤ 1000001
theorem plEnd_in {n s : Int} {l : List S30} {room : List Int} (hf : lvFit n s l room = true) {walk : List Int} (hw : ∀ r ∈ walk, 0 ≤ r ∧ r < (room.length : Int)) : 0 ≤ plEnd l s walk ∧ plEnd l s walk ≤ n := by
 (unfold plEnd); (by_cases c : walk.length = 0); (·(rw [if_pos c]); (simp only [lvFit, Bool.and_eq_true, decide_eq_true_eq] at hf); (omega))
 ·rw [if_neg c]
  have hp : walk.length - 1 < walk.length := by omega
  have e : rd walk ((walk.length : Int) - 1) = walk[walk.length - 1] := by
   ((have e1 : (walk.length : Int) - 1 = ((walk.length - 1 : Nat) : Int) := by omega);(rw [e1])); (simp [rd, hp])
  (have := hw _ (List.getElem_mem hp)); (rw [e]); (exact (lvTo_in hf this.1 this.2).2)
theorem PlW.tail {n : Int} {m k v : Nat} {ts : List (List Int)} {walk x : List Int} (h : PlW n m k ts walk) {r : Int} (hx : ts[v]? = some (r :: x)) : PlW n m k (ts.set v x) walk := by
 (refine ⟨h.mn, by rw [List.length_set]; exact h.tsl, fun u y hy => ?_, h.win, h.wl⟩); (by_cases c : u = v); (·subst c; (have hl := (List.getElem?_eq_some_iff.1 hx).1); (rw [List.getElem?_set_self hl] at hy); (obtain rfl := Option.some.inj hy); (exact fun q hq => h.tin u _ hx q (List.mem_cons_of_mem _ hq))); (·(rw [List.getElem?_set_ne (fun e => c e.symm)] at hy); (exact h.tin u y hy))
theorem PlW.take {n : Int} {m k j : Nat} {ts : List (List Int)} {walk : List Int} (h : PlW n m k ts walk) : PlW n m k ts (walk.take j) :=
 ⟨h.mn, h.tsl, h.tin, fun r hr => h.win r (List.mem_of_mem_take hr), by rw [List.length_take]; have := h.wl; omega⟩
theorem PlW.snoc {n : Int} {m k : Nat} {ts : List (List Int)} {walk : List Int} (h : PlW n m k ts walk) {r : Int} (hr : 0 ≤ r ∧ r < (k : Int)) (hl : walk.length ≤ 1000000) : PlW n m k ts (walk ++ [r]) :=
 ⟨h.mn, h.tsl, h.tin, fun q hq => by
  rcases List.mem_append.1 hq with hq | hq
  ·exact h.win q hq
  ·obtain rfl := List.mem_singleton.1 hq
   exact hr, by rw [List.length_append, List.length_singleton]; omega⟩
set_option maxHeartbeats 8000000 in
set_option maxRecDepth 100000 in
theorem plNext_calls (k : Nat) {own : Nat → Nat} {w0 w : World} {gw : Nat} {n s t : Int} {A3 : Option Addr} {c3 : Nat} {l : List (S30)} {vr : Value} {room : List Int} {least : Int} {gt m : Nat} {ts : List (List Int)} {vw : Value} {walk : List Int} {b : Bool} {ts2 : List (List Int)} {walk2 : List Int}
  (HR : Kd.C k30 w0 A3 l.length l) (HC : l.length ≤ c3) (hf : lvFit n s l room = true) (hw : PlW n m room.length ts walk) (hn : plNext l s t least room k ts walk = some (b, ts2, walk2))
  (h : Pl 98 2 3 22 own w0 w gw (.int .i64 n) (.int .i64 s) (.int .i64 t) (.slice A3 l.length c3) vr room least gt m ts vw walk) :
  Calls Try.prog 46 #[.pointer (some ⟨gw, 0, none⟩)] w fun e w' => e = .returned (.bool b) ∧ ∃ (own' : Nat → Nat) (vw2 : Value), Pl 98 2 3 22 own' w0 w' gw (.int .i64 n) (.int .i64 s) (.int .i64 t) (.slice A3 l.length c3) vr room least gt m ts2 vw2 walk2 ∧ PlW n m room.length ts2 walk2 ∧ Stay own own' PlT w w' ∧ w.heap.size ≤ w'.heap.size := by
 (have hu26 := Try.underlying26); (have hu28 := Try.underlying30); (have hu98 := Try.underlying98); (have HP := Aside0.mk h); (have HN := Aside0.mk hn); (have HW := Aside0.mk hw); (have HF := Aside0.mk hf); (have HRR := Aside0.mk HR); (have HCC := Aside0.mk HC); clear h hn hw hf HR HC; (go_enter Try.func46, Try.ntmps46); (go_wp2_with fail); (refine wp_scope_straight ?_); (go_wp2_with fail); (refine wp_label ?_); (go_wp2_with (go_at_call 56; refine (plEnd_calls HRR.out HCC.out HF.out HW.out.win (by have h_ := HW.out.wl; omega) HP.out).mono ?_; rintro e w1 ⟨rfl, hb⟩; have HP1 := Aside0.mk (HP.out.move hb); have HS1 : Aside0 (Stay own own PlT w w1 ∧ w.heap.size ≤ w1.heap.size) := ⟨Stay.below hb, below_size hb⟩; clear hb)); (go_loopg [3] k (fun kq v3 wr => ∃ (own' : Nat → Nat) (ts : List (List Int)) (vw : Value) (walk : List Int), v3 = .int .i64 (plEnd l s walk) ∧ Aside0 (Pl 98 2 3 22 own' w0 wr gw (.int .i64 n) (.int .i64 s) (.int .i64 t) (.slice A3 l.length c3) vr room least gt m ts vw walk) ∧ Aside0 (plNext l s t least room kq ts walk = some (b, ts2, walk2)) ∧ Aside0 (PlW n m room.length ts walk) ∧ Aside0 (Stay own own' PlT w wr ∧ w.heap.size ≤ wr.heap.size)))
 case atStart => exact ⟨own, ts, vw, walk, rfl, HP1, HN, HW, HS1⟩
 case round =>
  clear HP1 HN HW HS1 HP; (obtain ⟨own', ts, vw, walk, rfl, HP, HN, HW, HS⟩ := hrel); (have hin := plEnd_in HF.out HW.out.win)
  obtain ⟨f, hf⟩ : ∃ f, gk = f + 1 := by
   cases gk with
   | zero => have := HN.out; simp [plNext] at this
   | succ f => exact ⟨f, rfl⟩
  (have h2 := HP.out.g2); (by_cases hend : plEnd l s walk = t)
  ·have ht := HN.out
   ((rw [hf, plNext, if_pos hend] at ht);(simp only [Option.some.injEq, Prod.mk.injEq] at ht);(obtain ⟨rfl, rfl, rfl⟩ := ht);(have hz1 : (plEnd l s walk != t) = false := by simp [hend]);(have hz2 : (plEnd l s walk == t) = true := by simp [hend]);(clear hend hin)); (go_wp2_with fail)
   first | go_ret | (rw [Exit.noGoto_ret]; go_ret)
   exact ⟨rfl, own', vw, HP.out, HW.out, HS.out⟩
  ·obtain ⟨v, hv⟩ : ∃ v : Nat, plEnd l s walk = (v : Int) := ⟨(plEnd l s walk).toNat, by omega⟩
   ((have hvm : v < m := by have h_ := HW.out.mn; omega);(have HVM := Aside0.mk hvm);(have HV := Aside0.mk hv);(have HE := Aside0.mk hend);(rw [hv] at hend);(have hz1 : ((v : Int) != t) = true := by simp [hend]);(have hz2 : ((v : Int) == t) = false := by simp [hend]);(have HG := Aside0.mk hf);(rw [hv]);(clear hend hin hf hv hvm)); (go_wp2_with fail); clear h2 hz1 hz2; (go_loopg [] gk (fun kq wr => ∃ (own' : Nat → Nat) (ts : List (List Int)) (vw : Value), Aside0 (Pl 98 2 3 22 own' w0 wr gw (.int .i64 n) (.int .i64 s) (.int .i64 t) (.slice A3 l.length c3) vr room least gt m ts vw walk) ∧ Aside0 (plNext l s t least room kq ts walk = some (b, ts2, walk2)) ∧ Aside0 (PlW n m room.length ts walk) ∧ Aside0 (Stay own own' PlT w wr ∧ w.heap.size ≤ wr.heap.size) ∧ Aside0 (kq ≤ gk)))
   case atStart => exact ⟨own', ts, vw, HP, HN, HW, HS, ⟨Nat.le_refl _⟩⟩
   case round =>
    (clear HP HN HW HS);(obtain ⟨own', ts, vw, HP, HN, HW, HS, HK⟩ := hrel)
    obtain ⟨f2, hf2⟩ : ∃ f2, gk = f2 + 1 := by
     cases gk with
     | zero => have := HN.out; simp [plNext] at this
     | succ f => exact ⟨f, rfl⟩
    (have hvm := HVM.out);(have hv := HV.out);(have hvm2 : (v : Int) < (m : Int) := by omega);(have hv0 : (0 : Int) ≤ (v : Int) := by omega);(have hel := List.getElem?_eq_getElem (l := ts) (i := v) (by rw [HW.out.tsl]; exact hvm));(obtain ⟨x, hx⟩ : ∃ x, ts[v]'(by rw [HW.out.tsl]; exact hvm) = x := ⟨_, rfl⟩);(rw [hx] at hel);(have ht := HN.out);(rw [hf2, plNext, if_neg HE.out, hv, Int.toNat_natCast, List.getD_eq_getElem?_getD, hel] at ht);(have HG2 := Aside0.mk hf2);(have HX := Aside0.mk hel);(obtain ⟨Ax, cx, hxc, hxf, hxl, hxv⟩ := HP.out.tv.at hel);(obtain ⟨Aw, cw, ew⟩ := Kd.R_slice HP.out.walk);(subst ew);(have h6 := HP.out.g6);(have HXC := Aside0.mk hxc);(have HXL := Aside0.mk hxl);(have HXV := Aside0.mk hxv);(clear hf2 hvm hel hx hxl hxv hv)
    cases x with
    | nil =>
     ((have ht : (if walk.length = 0 then some (false, ts, walk) else match ts.getD (plEnd l s (walk.take (walk.length - 1))).toNat [] with | [] => none | _ :: qs => plNext l s t least room f2 (ts.set (plEnd l s (walk.take (walk.length - 1))).toNat qs) (walk.take (walk.length - 1))) = some (b, ts2, walk2) := ht);(have h7 := HP.out.g7);(have hf7 := HP.out.f7)); (by_cases hz : walk.length = 0)
     ·(rw [if_pos hz] at ht);(simp only [Option.some.injEq, Prod.mk.injEq] at ht);(obtain ⟨rfl, rfl, rfl⟩ := ht);(have hwl : wrap64 ((walk.length : Int) - 1) = -1 := by rw [hz]; unfold wrap64; omega);(clear hz)
      go_wp2_with fail
      first | go_ret | (rw [Exit.noGoto_ret]; go_ret)
      exact ⟨rfl, own', _, HP.out, HW.out, HS.out⟩
     ·(rw [if_neg hz] at ht);(obtain ⟨p, hp⟩ : ∃ p : Nat, walk.length = p + 1 := ⟨walk.length - 1, by omega⟩);(have hwb := HW.out.wl);(have hwl : wrap64 ((walk.length : Int) - 1) = (p : Int) := by unfold wrap64; omega);(have etk : walk.take (walk.length - 1) = walk.take p := by rw [hp]; rfl);(rw [etk] at ht);(have HW7 := Aside0.mk (HW.out.take (j := p)));(have hin2 := plEnd_in HF.out HW7.out.win);(obtain ⟨u, hu⟩ : ∃ u : Nat, plEnd l s (walk.take p) = (u : Int) := ⟨(plEnd l s (walk.take p)).toNat, by omega⟩);(have hum : u < m := by have h_ := HW.out.mn; omega);(have hum2 : (u : Int) < (m : Int) := by omega);(have hu0 : (0 : Int) ≤ (u : Int) := by omega);(have hey := List.getElem?_eq_getElem (l := ts) (i := u) (by rw [HW.out.tsl]; exact hum));(obtain ⟨z, hzz⟩ : ∃ z, ts[u]'(by rw [HW.out.tsl]; exact hum) = z := ⟨_, rfl⟩);(rw [hzz] at hey);(rw [hu, Int.toNat_natCast, List.getD_eq_getElem?_getD, hey] at ht)
      cases z with
      | nil => exact absurd ht (by simp)
      | cons q qs =>
       (have ht : plNext l s t least room f2 (ts.set u qs) (walk.take p) = some (b, ts2, walk2) := ht);(have HT2 := Aside0.mk ht);(have HY := Aside0.mk hey);(have HPW := Aside0.mk hp);(have HU := Aside0.mk hu);(have hp0 : (0 : Int) ≤ (p : Int) := by omega);(have hpl : (p : Int) ≤ (walk.length : Int) := by omega);(have hpz : decide ((p : Int) < 0) = false := by simp);(have hpc : p ≤ cw := by have h1_ := (Kd.R_reads' HP.out.walk).2.1; omega);(have hcx0 : decide (0 < 0) = false := rfl);(clear ht hey hp hu hin2 hum hzz etk hz hwb)
       go_wp2_with (first
        | ((with_reducible refine gate_store (t := 22) (p := 88) rfl ?_); refine store_event (t := 22) (p := 88) (v := ?va) (w1 := (wr.setCell ⟨gw, 7, none⟩ (.slice Aw p cw))) ?hg ?ho ?hn ?hr ?_; (case ho => rfl); (case hg => rfl); (case hn => rfl); (case hr => first | (go_simp; done) | (go_simp; rfl)); intro w7 hw; have hp7 := HP.out.back (k := p) (by have h_ := HPW.out; omega); rw [← hw] at hp7; have hz7 : wr.heap.size ≤ w7.heap.size := (by rw [hw]; exact set_size _ _); have HP7 := Aside0.mk hp7.1; have HS7 := Aside0.mk (Stay.go HS.out hp7.2 hz7); clear hp7 hw hz7 HP HS h7 hf7 h6 hxc HXC HXV)
        | (go_at_call 56; refine (plEnd_calls HRR.out HCC.out HF.out HW7.out.win (by have h_ := HW7.out.wl; omega) HP7.out).mono ?_; rw [HU.out]; rintro e w8 ⟨rfl, hb⟩; have HP8 := Aside0.mk (HP7.out.move hb); have HS8 := Aside0.mk (Stay.go HS7.out (Stay.below hb) (below_size hb)); clear hb HP7 HS7; have h6 := HP8.out.g6; obtain ⟨Ay, cy, hyc, hyf, hyl, hyv⟩ := HP8.out.tv.at HY.out; obtain ⟨g5, hg5, _⟩ := hyv.read (i := 0) (by simp); subst hg5; have HYL := Aside0.mk hyl; have HYV := Aside0.mk hyv; have hcl : (List.length (q :: qs)) = qs.length + 1 := rfl; rw [hcl] at hyc; have hcy : qs.length + 1 ≤ cy := hyl; have hlo : (1 : Int) ≤ ((qs.length + 1 : Nat) : Int) := (by omega); clear hyl hyv))
       go_region; ((have hp := HP8.out.pop (k := 1) HY.out (by simp) HYL.out HYV.out);(have emap : Option.map (fun x_ => Addr.add x_ 1) (some g5) = some ⟨g5.block, g5.off + 1, none⟩ := by simp [Addr.add]);(have edrop : (q :: qs).drop 1 = qs := rfl);(have elen : (q :: qs).length - 1 = qs.length := rfl);(rw [emap, edrop, elen] at hp);(obtain ⟨hp1, hp2⟩ := hp);(have hsz : w8.heap.size ≤ (w8.setCell ⟨gt, u, none⟩ (.slice (if cy = 1 then some g5 else some ⟨g5.block, g5.off + 1, none⟩) qs.length (cy - 1))).heap.size := set_size _ _);(generalize hU : (Value.slice (if cy = 1 then some g5 else some ⟨g5.block, g5.off + 1, none⟩) qs.length (cy - 1)) = U at hp1 hp2 hsz ⊢);(clear hU);(generalize (w8.setCell ⟨gt, u, none⟩ U) = w9 at hp1 hp2 hsz ⊢);(have hbd : Below w9.heap.size w9 w9.drew := below_drew (Below.refl _ _));(have HP9 := Aside0.mk (hp1.move hbd));(have HS9 := Aside0.mk (Stay.go (Stay.go HS8.out hp2 hsz) (Stay.below hbd) (below_size hbd)));(have HW9 := Aside0.mk (HW7.out.tail HY.out));(clear hp1 hp2 hsz hbd emap edrop elen HP8 HS8 hyc hyf hcl hcy hlo h6);(generalize w9.drew = w10 at *)); (go_wp2_with (go_at_call 56; refine (plEnd_calls HRR.out HCC.out HF.out HW9.out.win (by have h_ := HW9.out.wl; omega) HP9.out).mono ?_; rintro e w11 ⟨rfl, hb⟩; have HP10 := Aside0.mk (HP9.out.move hb); have HS10 := Aside0.mk (Stay.go HS9.out (Stay.below hb) (below_size hb)); clear hb HP9 HS9)); (go_roundg f2)
       case measure => have h1_ := HK.out; have h2_ := HG2.out; omega
       case rel => exact ⟨_, ts.set u qs, _, walk.take p, rfl, HP10, HT2, HW9, HS10⟩
    | cons r rs =>
     (have ht : (if least ≤ rd room r then (if walk.length ≤ 1000000 then plNext l s t least room f2 ts (walk ++ [r]) else none) else plNext l s t least room f2 (ts.set v rs) walk) = some (b, ts2, walk2) := ht);(have hrn := HW.out.tin v _ HX.out r List.mem_cons_self);(obtain ⟨r', hr'⟩ : ∃ r' : Nat, r = (r' : Int) := ⟨r.toNat, by omega⟩);(subst hr');(have hrm : r' < room.length := by omega);(have hrm2 : (r' : Int) < (room.length : Int) := by omega);(have hr0 : (0 : Int) ≤ (r' : Int) := by omega);(obtain ⟨g7, hg7, hrd⟩ := HXV.out.read (i := 0) (by simp));(subst hg7)
     have hrd2 : wr.cell? g7 = some (.int .i64 (r' : Int)) := by
      (have e_ : g7.add 0 = g7 := by simp [Addr.add]);(rw [e_] at hrd);(exact hrd)
     ((obtain ⟨Ar, cr, er⟩ := Kd.R_slice HP.out.room);(subst er);(obtain ⟨g8, hg8, hrr⟩ := HP.out.room.read hrm);(subst hg8);(have erd : rd room (r' : Int) = room[r'] := by simp [rd, hrm]);(rw [erd] at ht);(obtain ⟨y, hy⟩ : ∃ y, room[r'] = y := ⟨_, rfl⟩);(rw [hy] at ht hrr);(have h4 := HP.out.g4);(have h5 := HP.out.g5);(have hd0 : decide (0 < (List.length ((r' : Int) :: rs))) = true := by simp);(clear hrn hrm erd hy hrd)); (by_cases q1 : least ≤ y)
     ·(rw [if_pos q1] at ht);(have q1b : decide (y ≥ least) = true := by simpa using q1)
      by_cases q2 : walk.length ≤ 1000000
      ·(rw [if_pos q2] at ht);(have HT2 := Aside0.mk ht);(have HQL := Aside0.mk q2);(have HRM : Aside0 (0 ≤ (r' : Int) ∧ (r' : Int) < ((room.length : Nat) : Int)) := ⟨⟨hr0, hrm2⟩⟩);(clear ht q2 q1)
       (go_wp2_with fail); go_region; ((have hbd : Below wr.heap.size wr wr.drew := below_drew (Below.refl _ _));(have HP5 := Aside0.mk (HP.out.move hbd));(have HS5 := Aside0.mk (Stay.go HS.out (Stay.below hbd) (below_size hbd)));(clear hbd HP HS hxc HXC hrd2 hrr h4 h5 h6 hd0 q1b HXV);(generalize wr.drew = w5 at *);(have h7 := HP5.out.g7))
       go_wp2_with (first
        | ((with_reducible refine gate_builtin (b := .append) (xs := #[.tmp 52, .tmp 54]) rfl ?_); at_builtin; refine Kd.R_append (Kd.int .i64) (w0 := w0) w0.heap.size rfl (.tmp 52) (.tmp 54) 22 3 (.int .i64 0) 8 rfl Try.underlying22 info3 rfl (by decide) (by omega) (.slice Aw walk.length cw) walk (r' : Int) [.int .i64 r'] (fun k_ => own' k_ = 2 ∨ w5.heap.size ≤ k_) (fun _ => False) rfl (by first | (go_simp; done) | (go_simp; rfl)) ?aP (fun _ hk => hk.elim) ?aF ?aO ?aB ?aS ?aL ?_; (case aP => exact rfl); (case aF => exact (fun _ h_ => .inr h_)); (case aO => exact HP5.out.walk.open_); (case aB => exact HP5.out.below); (case aS => exact below_size HP5.out.below); (case aL => have h1_ := HQL.out; omega); intro u1 w6 ho hb6 hg hat; obtain ⟨Au, cu, eu⟩ := Kd.R_slice ho; subst eu; obtain ⟨hc6, hf6⟩ := HP5.out.hold hg; have HO6 := Aside0.mk ho; have HB6 := Aside0.mk hb6; have HG6 := Aside0.mk hg; clear ho hb6 hg hat h7))
       ((have hp7 := HP5.out.grow HG6.out HO6.out HB6.out);(have elen : (walk ++ [(r' : Int)]).length = walk.length + 1 := by simp);(rw [elen] at hp7);(obtain ⟨hp8, hp9⟩ := hp7);(have hz7 : w5.heap.size ≤ (w6.setCell ⟨gw, 7, none⟩ (.slice Au (walk.length + 1) cu)).heap.size := Nat.le_trans HG6.out.size (set_size _ _));(generalize (w6.setCell ⟨gw, 7, none⟩ (.slice Au (walk.length + 1) cu)) = w7 at hp8 hp9 hz7 ⊢);(have HP7 := Aside0.mk hp8);(have HS7 := Aside0.mk (Stay.go HS5.out hp9 hz7));(have HW7 := Aside0.mk (HW.out.snoc HRM.out HQL.out));(clear hp8 hp9 hz7 hc6 hf6 HO6 HB6 HG6 HP5 HS5 elen);(refine (plEnd_calls HRR.out HCC.out HF.out HW7.out.win (by have h_ := HW7.out.wl; omega) HP7.out).mono ?_);(rintro e w8 ⟨rfl, hb⟩);(have HP8 := Aside0.mk (HP7.out.move hb));(have HS8 := Aside0.mk (Stay.go HS7.out (Stay.below hb) (below_size hb)));(clear hb HP7 HS7)); (go_wp2_with fail); (go_roundg f2)
       case measure => have h1_ := HK.out; have h2_ := HG2.out; omega
       case rel => exact ⟨_, ts, _, _, rfl, HP8, HT2, HW7, HS8⟩
      ·(rw [if_neg q2] at ht);(exact absurd ht (by simp))
     ·(rw [if_neg q1] at ht);(have HT2 := Aside0.mk ht);(have q1b : decide (y ≥ least) = false := by simp; omega);(clear ht q1)
      (go_wp2_with fail); go_region; ((have hbd : Below wr.heap.size wr wr.drew := below_drew (Below.refl _ _));(have HP5 := Aside0.mk (HP.out.move hbd));(have HS5 := Aside0.mk (Stay.go HS.out (Stay.below hbd) (below_size hbd)));(have hh5 : wr.drew.heap[gt]? = wr.heap[gt]? := rfl);(obtain ⟨hc5, hf5⟩ := HP.out.tv.hold hh5 HXC.out);(have HXV5 := Aside0.mk (HXV.out.stay (T := fun _ => False) (Stay.below hbd) id));(clear hbd hh5 HP HS hxc HXC hrd2 hrr h4 h5 h6 hd0 q1b HXV);(generalize wr.drew = w5 at *);(have h6 := HP5.out.g6);(have hcl : (List.length ((r' : Int) :: rs)) = rs.length + 1 := rfl);(rw [hcl] at hc5);(have hcx : rs.length + 1 ≤ cx := HXL.out);(have hlo : (1 : Int) ≤ ((rs.length + 1 : Nat) : Int) := by omega)); (go_wp2_with fail); go_region; ((have hp := HP5.out.pop (k := 1) HX.out (by simp) HXL.out HXV5.out);(have emap : Option.map (fun x_ => Addr.add x_ 1) (some g7) = some ⟨g7.block, g7.off + 1, none⟩ := by simp [Addr.add]);(have edrop : ((r' : Int) :: rs).drop 1 = rs := rfl);(have elen : ((r' : Int) :: rs).length - 1 = rs.length := rfl);(rw [emap, edrop, elen] at hp);(obtain ⟨hp1, hp2⟩ := hp);(have hsz : w5.heap.size ≤ (w5.setCell ⟨gt, v, none⟩ (.slice (if cx = 1 then some g7 else some ⟨g7.block, g7.off + 1, none⟩) rs.length (cx - 1))).heap.size := set_size _ _);(generalize hU : (Value.slice (if cx = 1 then some g7 else some ⟨g7.block, g7.off + 1, none⟩) rs.length (cx - 1)) = U at hp1 hp2 hsz ⊢);(clear hU);(generalize (w5.setCell ⟨gt, v, none⟩ U) = w6 at hp1 hp2 hsz ⊢);(have hbd : Below w6.heap.size w6 w6.drew := below_drew (Below.refl _ _));(have HP7 := Aside0.mk (hp1.move hbd));(have HS7 := Aside0.mk (Stay.go (Stay.go HS5.out hp2 hsz) (Stay.below hbd) (below_size hbd)));(clear hp1 hp2 hsz hbd emap edrop elen HP5 HS5 hc5 hf5 hcl hcx hlo h6)); (go_wp2_with fail); (go_roundg f2)
      case measure => have h2_ := HG2.out; omega
      case rel => exact ⟨_, ts.set v rs, _, HP7, HT2, ⟨HW.out.tail HX.out⟩, HS7, ⟨by have h1_ := HK.out; have h2_ := HG2.out; omega⟩⟩
end Go.Proofs.Ytdiaedecnfbgdaa.PPlainBlocks
