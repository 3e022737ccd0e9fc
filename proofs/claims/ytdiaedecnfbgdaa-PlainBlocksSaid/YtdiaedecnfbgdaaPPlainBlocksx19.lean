/- For the law PlainBlocks, for every input: printed by a program (wip/myprint), contracts by hand where it says MANUAL. -/
-- slim5
-- slim
import Derived.Test.YtdiaedecnfbgdaaPPlainBlocksx0
import Derived.Test.YtdiaedecnfbgdaaPPlainBlocksx8
import Derived.Test.YtdiaedecnfbgdaaPPlainBlocksx10
import Derived.Test.YtdiaedecnfbgdaaPPlainBlocksx11
import Derived.Test.YtdiaedecnfbgdaaPPlainBlocksx13
import Derived.Test.YtdiaedecnfbgdaaPPlainBlocksx17
import Derived.Test.YtdiaedecnfbgdaaPPlainBlocksx18
namespace Go.Proofs.Ytdiaedecnfbgdaa.PPlainBlocks
open Go.RowKit Go.Proofs.YtdiaedecnfbgdaaW.PrintWords Go.Proofs.YtdiaedecnfbgdaaW.PrintLast Go.Proofs.YtdiaedecnfbgdaaW.PrintMore
attribute [local go_sem] max2_int min2_int max_two min_two max_three min_three max_four min_four
set_option linter.unusedVariables false
set_option linter.unusedSimpArgs false
/-! ### plain_Block: function 28 -/
-- MANUAL: this contract was written by hand.
open Go.Proofs.YtdiaedecnfbgdaaW.Mine
/-- Walks until none is left. -/
def plRun (l : List S30) (s t least : Int) (K : Nat) : Nat → List Int → List (List Int) → List Int → List S61 → Option (List Int × List S61)
 | 0, _, _, _, _ => none
 | f + 1, room, ts, walk, ws => (plNext l s t least room K ts walk).bind fun p => if p.1 = true then (if ws.length ≤ 1000000 then (plPush room least p.2.2).bind fun q => plRun l s t least K f q.2.1 p.2.1 q.2.2 (ws ++ [⟨p.2.2, q.1⟩]) else none) else some (room, ws)
def plOut (room : List Int) (m : Nat) : List Int := (List.range m).map (fun i : Nat => rd room (2 * (i : Int) + 1))
def plain_Block.f (k : Nat) (a0_0 : Int) (a0_1 : Int) (a0_2 : Int) (l0_3 : List (S30)) (l1 : List Int) (a2 : Int) : Option (List Int × List S61 × Int) :=
 (level_Leads.f k a0_0 a0_1 a0_2 l0_3 l1 a2).bind fun p => if p.2 = 0 then ((residual_Room.f k a0_0 a0_1 a0_2 l0_3 l1).bind fun q => if (lvFit a0_0 a0_1 l0_3 q.1 && (decide (p.1.length ≤ 1000000 ∧ l1.length ≤ l0_3.length) && p.1.all fun r => decide (0 ≤ r ∧ r < (q.1.length : Int)))) = true then (plRun l0_3 a0_1 a0_2 a2 k k q.1 (plRows l0_3 (a0_0 + 1).toNat p.1) [] []).bind (fun z => some (plOut z.1 l1.length, z.2, 0)) else none) else some ([], [], p.2)
theorem plLeO_trans {α : Type} {a b c : Option α} (h : LeO a b) (k : LeO b c) : LeO a c := fun r hr => k r (h r hr)
theorem plRun.monoK (l : List S30) (s t least : Int) (K : Nat) : ∀ (f : Nat) (room : List Int) (ts : List (List Int)) (walk : List Int) (ws : List S61), LeO (plRun l s t least K f room ts walk ws) (plRun l s t least (K + 1) f room ts walk ws)
 | 0, _, _, _, _ => fun r h => by simp [plRun] at h
 | f + 1, room, ts, walk, ws => by
  (rw [plRun, plRun]); (exact LeO.bind (plNext.mono _ _ _ _ _ _ _ _) (fun p => LeO.ite (LeO.ite (LeO.bind (LeO.refl _) (fun q => plRun.monoK l s t least K f _ _ _ _)) (LeO.none _)) (LeO.refl _)))
theorem plRun.mono (l : List S30) (s t least : Int) (K : Nat) : ∀ (f : Nat) (room : List Int) (ts : List (List Int)) (walk : List Int) (ws : List S61), LeO (plRun l s t least K f room ts walk ws) (plRun l s t least K (f + 1) room ts walk ws)
 | 0, _, _, _, _ => fun r h => by simp [plRun] at h
 | f + 1, room, ts, walk, ws => by
  (rw [plRun, plRun]); (exact LeO.bind (LeO.refl _) (fun p => LeO.ite (LeO.ite (LeO.bind (LeO.refl _) (fun q => plRun.mono l s t least K f _ _ _ _)) (LeO.none _)) (LeO.refl _)))
theorem plain_Block.mono : ∀ a0 a1 a2 a3 a4 a5 k, LeO (plain_Block.f k a0 a1 a2 a3 a4 a5) (plain_Block.f (k + 1) a0 a1 a2 a3 a4 a5) := by
 intro a0 a1 a2 a3 a4 a5 k; (unfold plain_Block.f); (exact LeO.bind (level_Leads.mono _ _ _ _ _ _ _) (fun p => LeO.ite (LeO.bind (residual_Room.mono _ _ _ _ _ _) (fun q => LeO.ite (LeO.bind (plLeO_trans (plRun.monoK _ _ _ _ _ _ _ _ _ _) (plRun.mono _ _ _ _ _ _ _ _ _ _)) (fun _ => LeO.refl _)) (LeO.none _))) (LeO.refl _)))
theorem plFit_len {n s : Int} {l : List S30} {room room2 : List Int} (h : lvFit n s l room = true) (e : room2.length = room.length) : lvFit n s l room2 = true := by
 (unfold lvFit at h ⊢); (rw [e]); (exact h)
theorem plPush_len {room : List Int} {least : Int} {walk : List Int} {most : Int} {room2 walk2 : List Int} (h : plPush room least walk = some (most, room2, walk2)) : room2.length = room.length := by
 unfold plPush at h
 split at h
 ·cases h
 ·split at h
  ·split at h
   ·(simp only [Option.some.injEq, Prod.mk.injEq] at h);(rw [← h.2.1]);(exact plPour_len _ _ _)
   ·cases h
  ·cases h
theorem plRow_stay {e b : Nat} {d : Kd S61} {own own' : Nat → Nat} {W W1 : World} {v : Value} {xs : List S61} (h : Kd.S d e W b (fun k => own k = 3) v xs) (s : Stay own own' PlT W W1) : Kd.S d e W1 b (fun k => own' k = 3) v xs :=
 Kd.S_mono (Kd.S_move (Kd.S_bound h) (fun k hk => s.heap k hk.2.2.1 (by rw [hk.1]; unfold PlT; omega))) (fun k hk => (s.own k hk.2.2.1).trans hk.1)
theorem plMore {own : Nat → Nat} {W : World} {k : Nat} (h : own k = 3 ∨ W.heap.size ≤ k) : more own W 3 k = 3 := by
 (unfold more); (by_cases c : k < W.heap.size)
 ·rw [if_pos c]
  rcases h with h | h
  ·exact h
  ·omega
 ·rw [if_neg c]
theorem plKeep {tw te ti tl : Nat} {own own' : Nat → Nat} {w0 W W1 : World} {gw : Nat} {c0 c1 c2 c3 : Value} {vr : Value} {room : List Int} {least : Int} {gt m : Nat} {ts : List (List Int)} {vw : Value} {walk : List Int} (h : Pl tw te ti tl own w0 W gw c0 c1 c2 c3 vr room least gt m ts vw walk) (s : Stay own own' (fun t => t = 3) W W1) (hb : Below w0.heap.size w0 W1) : Pl tw te ti tl own' w0 W1 gw c0 c1 c2 c3 vr room least gt m ts vw walk :=
 ⟨hb, h.box.stay s (by decide), h.room.stay s (by decide), h.tv.stay s (by decide) (fun j => by omega), h.walk.stay s (by decide)⟩
set_option maxHeartbeats 8000000 in
set_option maxRecDepth 100000 in
theorem plain_Block.calls0 (k : Nat) (a0_0 : Int) (a0_1 : Int) (a0_2 : Int) (A0_3 : Option Addr) (c0_3 : Nat) (l0_3 : List (S30)) (A1 : Option Addr) (c1 : Nat) (l1 : List Int) (a2 : Int) (r1 : List Int) (r2 : List S61) (r3 : Int) (w : World) (hr0_3 : Kd.C k30 w A0_3 l0_3.length l0_3) (hc0_3 : l0_3.length ≤ c0_3) (hr1 : Kd.C (Kd.int .i64) w A1 l1.length l1) (hc1 : l1.length ≤ c1) (h : plain_Block.f k a0_0 a0_1 a0_2 l0_3 l1 a2 = some (r1, r2, r3)) :
  Calls Try.prog 28 #[.agg #[.int .i64 a0_0, .int .i64 a0_1, .int .i64 a0_2, .slice A0_3 l0_3.length c0_3], .slice A1 l1.length c1, .int .i64 a2] w fun e w' => ∃ v0_ v1_ : Value, e = .returned (.tuple #[v0_, v1_, .int .i64 r3]) ∧ Kd.R (Kd.int .i64) 2 w' w.heap.size (fun _ => True) v0_ r1 ∧ Kd.S k61 61 w' w.heap.size (fun _ => True) v1_ r2 ∧ Below w.heap.size w w' := by
 (have hu26 := Try.underlying26); (have hu28 := Try.underlying30); (have hu61 := Try.underlying61); (unfold plain_Block.f at h); (obtain ⟨⟨leads, er⟩, hleads, h⟩ := Option.bind_eq_some_iff.mp h); (simp only at h); (have HLE := Aside0.mk hleads); (have HR := Aside0.mk hr0_3); (have HC := Aside0.mk hc0_3); (have HF := Aside0.mk hr1); (have HC1 := Aside0.mk hc1); (have HB := Aside0.mk (Below.refl w.heap.size w)); clear hleads hr0_3 hc0_3 hr1 hc1; (by_cases e0 : er = 0)
 ·rw [if_pos e0] at h
  subst e0; (obtain ⟨⟨room, er2⟩, hroom, h⟩ := Option.bind_eq_some_iff.mp h); (simp only at h); (by_cases e1 : (lvFit a0_0 a0_1 l0_3 room && (decide (leads.length ≤ 1000000 ∧ l1.length ≤ l0_3.length) && leads.all fun r => decide (0 ≤ r ∧ r < (room.length : Int)))) = true)
  ·rw [if_pos e1] at h
   (obtain ⟨⟨ro, ws⟩, hrun, h⟩ := Option.bind_eq_some_iff.mp h);(simp only [Option.some.injEq, Prod.mk.injEq] at h);(obtain ⟨rfl, rfl, rfl⟩ := h);(simp only [Bool.and_eq_true, decide_eq_true_eq, List.all_eq_true] at e1);(obtain ⟨hfit, ⟨hl1, hl2⟩, hl3⟩ := e1);(have HRM := Aside0.mk hroom);(have HRUN := Aside0.mk hrun);(have HFIT := Aside0.mk hfit);(have HL1 := Aside0.mk hl1);(have HL2 := Aside0.mk hl2);(have HL3 := Aside0.mk hl3);(obtain ⟨m, hm⟩ : ∃ m : Nat, (a0_0 + 1).toNat = m := ⟨_, rfl⟩)
   have hmn : (m : Int) = a0_0 + 1 := by
    (simp only [lvFit, Bool.and_eq_true, decide_eq_true_eq] at hfit); (omega)
   ((have HMN := Aside0.mk hmn);(have HM := Aside0.mk hm);(clear hroom hrun hfit hl1 hl2 hl3 hm hmn)); (go_enter Try.func28, Try.ntmps28)
   go_wp2_with (first
    | ((with_reducible refine gate_dst (N := 3) rfl ?_); refine box_event ?hg (N := 3) ?hd (cs := #[.int .i64 a0_0, .int .i64 a0_1, .int .i64 a0_2, .slice A0_3 l0_3.length c0_3]) (t := 26) ?hr ?_; (case hd => rfl); (case hg => rfl); (case hr => first | (go_simp; done) | (go_simp; rfl)); intro gn hg w1 hbox hb; have HB1 := Aside0.mk (below_step HB.out hb); have BN := Aside0.mk hbox; clear HB hb hbox hg; have hcz0 : w1.cell? ⟨gn, 0, none⟩ = some (.int .i64 a0_0) := (blk_cell BN.out 0).trans rfl; have hcz1 : w1.cell? ⟨gn, 1, none⟩ = some (.int .i64 a0_1) := (blk_cell BN.out 1).trans rfl; have hcz2 : w1.cell? ⟨gn, 2, none⟩ = some (.int .i64 a0_2) := (blk_cell BN.out 2).trans rfl; have hcz3 : w1.cell? ⟨gn, 3, none⟩ = some (.slice A0_3 l0_3.length c0_3) := (blk_cell BN.out 3).trans rfl)
    | (go_at_call 33; refine (level_Leads.calls k a0_0 a0_1 a0_2 A0_3 c0_3 l0_3 A1 c1 l1 a2 leads 0 _ ?s1 HC.out ?s2 HC1.out HLE.out).mono ?_; (case s1 => exact Kd.C_below HR.out HB1.out); (case s2 => exact Kd.C_below HF.out HB1.out); rintro e w2 ⟨v8, rfl, ho, hb⟩; obtain ⟨A9, c9, eo⟩ := Kd.R_slice ho; subst eo; have HB2 := Aside0.mk (below_step HB1.out hb); have BN2 := Aside0.mk (blk_below BN.out hb); have HLD := Aside0.mk (Kd.R_lower ho (below_size HB1.out)); clear ho hb HB1 BN hcz0 hcz1 hcz2 hcz3; have hcz0 : w2.cell? ⟨gn, 0, none⟩ = some (.int .i64 a0_0) := (blk_cell BN2.out 0).trans rfl; have hcz1 : w2.cell? ⟨gn, 1, none⟩ = some (.int .i64 a0_1) := (blk_cell BN2.out 1).trans rfl; have hcz2 : w2.cell? ⟨gn, 2, none⟩ = some (.int .i64 a0_2) := (blk_cell BN2.out 2).trans rfl; have hcz3 : w2.cell? ⟨gn, 3, none⟩ = some (.slice A0_3 l0_3.length c0_3) := (blk_cell BN2.out 3).trans rfl)
    | (go_at_call 29; refine (residual_Room.calls k a0_0 a0_1 a0_2 A0_3 c0_3 l0_3 A1 c1 l1 room er2 _ ?s1 HC.out ?s2 HC1.out HRM.out).mono ?_; (case s1 => exact Kd.C_below HR.out HB2.out); (case s2 => exact Kd.C_below HF.out HB2.out); rintro e w3 ⟨v9, rfl, ho, hb⟩; obtain ⟨Ar, cr, eo⟩ := Kd.R_slice ho; subst eo; have HB3 := Aside0.mk (below_step HB2.out hb); have BN3 := Aside0.mk (blk_below BN2.out hb); have HLD3 := Aside0.mk (Kd.R_below HLD.out hb); have HRO := Aside0.mk (Kd.R_lower ho (below_size HB2.out)); clear ho hb HB2 BN2 HLD hcz0 hcz1 hcz2 hcz3; have hcz0 : w3.cell? ⟨gn, 0, none⟩ = some (.int .i64 a0_0) := (blk_cell BN3.out 0).trans rfl; have hcz1 : w3.cell? ⟨gn, 1, none⟩ = some (.int .i64 a0_1) := (blk_cell BN3.out 1).trans rfl; have hcz2 : w3.cell? ⟨gn, 2, none⟩ = some (.int .i64 a0_2) := (blk_cell BN3.out 2).trans rfl; have hcz3 : w3.cell? ⟨gn, 3, none⟩ = some (.slice A0_3 l0_3.length c0_3) := (blk_cell BN3.out 3).trans rfl)
    | (go_at_call 45; refine (plOf_calls (w0 := w) (m := m) HR.out HC.out HFIT.out HMN.out HL3.out HL1.out HB3.out HRO.out HLD3.out).mono ?_; rintro e w4 ⟨gw, rfl, gt, own, hp⟩; have HP4 := Aside0.mk hp; clear hp HB3 BN3 HLD3 HRO hcz0 hcz1 hcz2 hcz3))
   ((have hrows : PlW a0_0 m room.length (plRows l0_3 m leads) [] := ⟨HMN.out, plRows_len _ _ _, fun v x hx r hr => (plRows_mem (Q := fun q => 0 ≤ q ∧ q < (room.length : Int)) HL3.out v x hx).2 r hr, fun r hr => by (cases hr), Nat.zero_le _⟩);(have HROWS := Aside0.mk hrows);(have hrun2 := HRUN.out);(rw [HM.out] at hrun2);(have HRUN2 := Aside0.mk hrun2);(clear hrows hrun2 HRUN)); (go_loopg [14] k (fun kq v14 wr => ∃ (own : Nat → Nat) (vw : Value) (rm : List Int) (ts : List (List Int)) (walk : List Int) (wl : List S61), Aside0 (Pl 98 2 3 22 own w wr gw (.int .i64 a0_0) (.int .i64 a0_1) (.int .i64 a0_2) (.slice A0_3 l0_3.length c0_3) (.slice Ar room.length cr) rm a2 gt m ts vw walk) ∧ Aside0 (PlW a0_0 m rm.length ts walk) ∧ Aside0 (rm.length = room.length) ∧ Aside0 (plRun l0_3 a0_1 a0_2 a2 k kq rm ts walk wl = some (ro, ws)) ∧ Aside0 (Kd.S k61 61 wr w.heap.size (fun k_ => own k_ = 3) v14 wl)))
   case atStart => exact ⟨own, _, room, plRows l0_3 m leads, [], [], HP4, HROWS, ⟨rfl⟩, HRUN2, ⟨Kd.S_nil _ _ _ _ _⟩⟩
   case round =>
    (clear HP4 HROWS HRUN2);(obtain ⟨own, vw, rm, ts, walk, wl, HP, HW, HRL, HN, HV⟩ := hrel)
    obtain ⟨f, hf⟩ : ∃ f, gk = f + 1 := by
     cases gk with
     | zero => have := HN.out; simp [plRun] at this
     | succ f => exact ⟨f, rfl⟩
    (have ht := HN.out);(rw [hf, plRun] at ht);(obtain ⟨⟨b, ts2, walk2⟩, hnx, ht⟩ := Option.bind_eq_some_iff.mp ht);(simp only at ht);(have HG := Aside0.mk hf);(have HNX := Aside0.mk hnx);(have HFI := Aside0.mk (plFit_len HFIT.out HRL.out));(clear hf hnx HN)
    cases b with
    | false =>
     (have ht : some (rm, wl) = some (ro, ws) := ht);(simp only [Option.some.injEq, Prod.mk.injEq] at ht);(obtain ⟨rfl, rfl⟩ := ht)
     go_wp2_with (first
      | (go_at_call 46; refine (plNext_calls k HR.out HC.out HFI.out HW.out HNX.out HP.out).mono ?_; rintro e w5 ⟨rfl, own2, vw2, hp, hpw, hs, hz⟩; have HP5 := Aside0.mk hp; have HV5 := Aside0.mk (plRow_stay HV.out hs); have HB5 := Aside0.mk hp.below; clear hp hpw hs hz HP HV HW)
      | ((with_reducible refine gate_dst (N := 47) rfl ?_); refine Kd.R_make (Kd.int .i64) (w0 := w) w.heap.size 2 ?ng (N := 47) ?nd 27 (.tmp 46) (.tmp 46) ?no (l1.length : Int) ?nx ?ny Try.underlying27 (.int .i64 0) 8 info2 rfl (by decide) (by decide) 0 (ok := fun k_ => w5.heap.size ≤ k_) (okp := fun _ => False) rfl (fun _ h_ => h_.elim) (Nat.le_refl _) (by omega) ?nl HB5.out (below_size HB5.out) ?_; (case nd => rfl); (case ng => rfl); (case no => rfl); (case nx => first | (go_simp; done) | (go_simp; rfl)); (case ny => first | (go_simp; done) | (go_simp; rfl)); (case nl => have h1_ := HL2.out; have h2_ := HFI.out; simp only [lvFit, Bool.and_eq_true, decide_eq_true_eq] at h2_; omega); intro v47 w6 ho6 hb6 hg6 hn6; rw [Int.toNat_natCast] at ho6; obtain ⟨Ao, co, eo⟩ := Kd.R_slice ho6; rw [List.length_replicate] at eo; subst eo; have HO6 := Aside0.mk ho6; have HBX := Aside0.mk (show Below w5.heap.size w5 w6 from ⟨hg6.os, hg6.tape, hg6.output, hg6.size, fun k_ h_ => hg6.block k_ h_ (by simp)⟩); clear ho6 hb6 hg6 hn6))
     have HLL : Aside0 (rm.length = 2 * l0_3.length ∧ l0_3.length ≤ 2000 ∧ l1.length ≤ l0_3.length) := ⟨by
      (have h2_ := HFI.out);(have h1_ := HL2.out);(simp only [lvFit, Bool.and_eq_true, decide_eq_true_eq] at h2_)
      omega⟩
     go_loopg [50] (l1.length + 1) (fun kq v50 wr => ∃ (j : Nat) (out : List Int), v50 = .int .i64 j ∧ Aside0 (j + kq = l1.length + 1 ∧ 0 < kq) ∧ Aside0 (out.length = l1.length ∧ ∀ i : Nat, i < j → rd out (i : Int) = rd rm (2 * (i : Int) + 1)) ∧ Aside0 ((Kd.int .i64).R 2 wr w.heap.size (fun k_ => w5.heap.size ≤ k_) (.slice Ao l1.length co) out) ∧ Aside0 (Below w5.heap.size w5 wr))
     case atStart => exact ⟨0, List.replicate l1.length 0, rfl, ⟨by omega⟩, ⟨by rw [List.length_replicate], fun i h_ => by omega⟩, HO6, HBX⟩
     case round =>
      ((clear HO6 HBX);(obtain ⟨j, out, rfl, HK, HOUT, HO, HBX⟩ := hrel)); (by_cases hlt : j < l1.length)
      ·(have hlt2 : (j : Int) < (l1.length : Int) := by omega);(have hj0 : (0 : Int) ≤ (j : Int) := by omega);(have hll := HLL.out);(have hrl := HRL.out);(have hq : 2 * j + 1 < rm.length := by omega);(have hroom := HP5.out.room.stay (T := fun _ => False) (Stay.below HBX.out) id);(obtain ⟨g8, e8, hrr⟩ := Rw.read hroom hq);(cases e8)
       have erd : rd rm (2 * (j : Int) + 1) = rm[2 * j + 1] := by
        (show rm.getD (2 * (j : Int) + 1).toNat 0 = _); (rw [List.getD_eq_getElem?_getD, show (2 * (j : Int) + 1).toNat = 2 * j + 1 by omega, List.getElem?_eq_getElem hq]); rfl
       (obtain ⟨y, hy⟩ : ∃ y, rm[2 * j + 1] = y := ⟨_, rfl⟩);(rw [hy] at erd hrr);(have hw1 : wrap64 (2 * (j : Int)) = 2 * (j : Int) := by unfold wrap64; omega);(have hw2 : wrap64 (2 * (j : Int) + 1) = ((2 * j + 1 : Nat) : Int) := by unfold wrap64; omega);(have hb1 : ((2 * j + 1 : Nat) : Int) < (room.length : Int) := by omega);(have hb0 : (0 : Int) ≤ ((2 * j + 1 : Nat) : Int) := by omega);(have hpos : 0 < out.length := by have h_ := HOUT.out.1; omega);(obtain ⟨go, cap, hv, _, _, _⟩ := Kd.R_form HO.out hpos);(injection hv with hA hn hc);(subst hA);(have hgo : w5.heap.size ≤ go := HO.out.1 go rfl);(obtain ⟨hou, hof⟩ := Kd.R_celln (0 : Int) HO.out (j : Int) hj0 hlt2);(rw [Int.toNat_natCast] at hou hof);(have hput := Kd.R_putn HO.out (j : Int) y);(rw [Int.toNat_natCast] at hput);(have HPUT := Aside0.mk hput);(have HB9 : Aside0 (Below w5.heap.size w5 (wr.setCell ⟨go, j, none⟩ (.int .i64 y))) := ⟨below_set HBX.out hgo⟩)
       have HOUT2 : Aside0 ((out.set j y).length = l1.length ∧ ∀ i : Nat, i < j + 1 → rd (out.set j y) (i : Int) = rd rm (2 * (i : Int) + 1)) := ⟨by rw [List.length_set]; exact HOUT.out.1, fun i hi => by
        (by_cases c_ : i = j); (·((subst c_);(have hl_ : i < out.length := by have h_ := HOUT.out.1; omega);(rw [erd])); (simp [rd, hl_]))
        ·(have h_ := HOUT.out.2 i (by omega));(rw [← h_]);(unfold rd)
         rw [Int.toNat_natCast, List.getD_eq_getElem?_getD, List.getD_eq_getElem?_getD, List.getElem?_set_ne (fun e_ => c_ e_.symm)]⟩
       clear hlt hll hrl hroom hy erd hpos hn hc hgo hput hq; (go_wp2_with fail); (obtain ⟨hk1, hk2⟩ := HK.out); (go_roundg (gk - 1))
       case measure => omega
       case rel => exact ⟨j + 1, out.set j y, lv_succ (by have h_ := HLL.out; omega), ⟨by omega⟩, HOUT2, HPUT, HB9⟩
      ·have hge : ¬ ((j : Int) < (l1.length : Int)) := by omega
       have hout : out = plOut rm l1.length := by
        ((have h1_ := HOUT.out.1);(refine List.ext_getElem (by rw [plOut, List.length_map, List.length_range]; exact h1_) (fun i a1_ a2_ => ?_));(have h2_ := HOUT.out.2 i (by omega));(simp only [plOut, List.getElem_map, List.getElem_range]);(rw [← h2_])); (simp [rd, a1_])
       ((have HO9 := HO.out);(rw [hout] at HO9);(have HO10 := Aside0.mk HO9);(have HV9 := Aside0.mk (Kd.S_below HV5.out HBX.out));(have HBZ := Aside0.mk (below_step HB5.out HBX.out));(clear hlt hout HO9)); (go_wp2_with fail); (go_ret3)
       exact ⟨_, _, rfl, Kd.R_mono HO10.out (fun _ _ => trivial), Kd.S_mono HV9.out (fun _ _ => trivial), HBZ.out⟩
    | true =>
     (have ht : (if wl.length ≤ 1000000 then (plPush rm a2 walk2).bind fun q => plRun l0_3 a0_1 a0_2 a2 k f q.2.1 ts2 q.2.2 (wl ++ [⟨walk2, q.1⟩]) else none) = some (ro, ws) := ht); (by_cases hlen : wl.length ≤ 1000000)
     ·(rw [if_pos hlen] at ht);(obtain ⟨⟨most, rm2, walk3⟩, hpush, ht⟩ := Option.bind_eq_some_iff.mp ht);(simp only at ht);(have HPUSH := Aside0.mk hpush);(have HT2 := Aside0.mk ht);(have HLEN := Aside0.mk hlen);(have HRL2 := Aside0.mk ((plPush_len hpush).trans HRL.out));(clear hpush ht hlen)
      go_wp2_with (first
       | (go_at_call 46; refine (plNext_calls k HR.out HC.out HFI.out HW.out HNX.out HP.out).mono ?_; rintro e w5 ⟨rfl, own2, vw2, hp, hpw, hs, hz⟩; have HP5 := Aside0.mk hp; have HW5 := Aside0.mk hpw; have HV5 := Aside0.mk (plRow_stay HV.out hs); clear hp hpw hs hz HP HV HW)
       | (go_at_call 47; refine (plPush_calls HW5.out HPUSH.out HP5.out).mono ?_; rintro e w6 ⟨At, rfl, own3, vw3, hp, hpw, hs, hz, htold⟩; have HP6 := Aside0.mk hp; have HW6 := Aside0.mk hpw; have HV6 := Aside0.mk (Kd.S_mono (ok' := fun k_ => own3 k_ = 3 ∧ k_ < w5.heap.size) (Kd.S_move (Kd.S_bound HV5.out) (fun k_ hk_ => hs.heap k_ hk_.2.2.1 (by rw [hk_.1]; unfold PlT; omega))) (fun k_ hk_ => ⟨(hs.own k_ hk_.2.2.1).trans hk_.1, hk_.2.2.1⟩)); have HTO := Aside0.mk (Kd.R_mono (ok' := fun k_ => own3 k_ = 3 ∧ w5.heap.size ≤ k_) (Kd.R_bound htold) (fun k_ hk_ => ⟨hk_.1, hk_.2.1⟩)); have HTL := Aside0.mk (Kd.R_lower HTO.out (below_size HP5.out.below)); clear hp hpw hs hz htold HP5 HV5 HW5)
       | ((with_reducible refine gate_builtin (b := .append) (xs := #[.tmp 40, .tmp 43]) rfl ?_); at_builtin; refine Kd.S_append k61 (w0 := w) w.heap.size rfl (.tmp 40) (.tmp 43) 56 61 (.agg #[.slice none 0 0, .int .i64 0]) 32 rfl Try.underlying56 info61 rfl (by decide) (by omega) _ wl (⟨walk2, most⟩ : S61) [At, .int .i64 most] (fun k_ => own3 k_ = 3 ∨ w6.heap.size ≤ k_) (fun k_ => own3 k_ = 3 ∧ w5.heap.size ≤ k_) rfl (by first | (go_simp; done) | (go_simp; rfl)) ?aP ?aK ?aF ?aO ?aB ?aS ?aL ?_; (case aP => exact k61_mkM _ _ _ (⟨walk2, most⟩ : S61) HTL.out); (case aK => exact fun k_ hk_ => ⟨.inl hk_.1, fun e_ => by have h_ := (Kd.S_R HV6.out).1 k_ e_.symm; omega⟩); (case aF => exact (fun _ h_ => .inr h_)); (case aO => exact Kd.S_mono HV6.out (fun k_ hk_ => ⟨.inl hk_.1, fun h_ => by omega⟩)); (case aB => exact HP6.out.below); (case aS => exact below_size HP6.out.below); (case aL => have h1_ := HLEN.out; omega); intro u1 w7 ho hb7 hg hat; have hst : Stay own3 (more own3 w6 3) (fun t_ => t_ = 3) w6 w7 := Stay.grown hg (fun k_ hk_ => ((Kd.S_R HV6.out).1 k_ hk_).1); have HP7 := Aside0.mk (plKeep HP6.out hst hb7); have HV7 : Aside0 (Kd.S k61 61 w7 w.heap.size (fun k_ => more own3 w6 3 k_ = 3) u1 (wl ++ [⟨walk2, most⟩])) := ⟨Kd.S_mono ho (fun k_ hk_ => plMore hk_)⟩; clear ho hb7 hg hat hst HP6 HV6 HTO HTL))
      go_roundg f
      case measure => have h_ := HG.out; omega
      case rel => exact ⟨_, _, rm2, ts2, walk3, _, HP7, HW6, HRL2, HT2, HV7⟩
     ·(rw [if_neg hlen] at ht);(exact absurd ht (by simp))
  (·(rw [if_neg e1] at h); (exact absurd h (by simp)))
 ·rw [if_neg e0] at h
  (simp only [Option.some.injEq, Prod.mk.injEq] at h); (obtain ⟨rfl, rfl, rfl⟩ := h); (have h0b : (er == 0) = false := beq_eq_false_iff_ne.mpr e0); (have h0c : (er != 0) = true := bne_iff_ne.mpr e0); clear e0; (go_enter Try.func28, Try.ntmps28)
  go_wp2_with (first
    | ((with_reducible refine gate_dst (N := 3) rfl ?_); refine box_event ?hg (N := 3) ?hd (cs := #[.int .i64 a0_0, .int .i64 a0_1, .int .i64 a0_2, .slice A0_3 l0_3.length c0_3]) (t := 26) ?hr ?_; (case hd => rfl); (case hg => rfl); (case hr => first | (go_simp; done) | (go_simp; rfl)); intro gn hg w1 hbox hb; have HB1 := Aside0.mk (below_step HB.out hb); have BN := Aside0.mk hbox; clear HB hb hbox hg; have hcz0 : w1.cell? ⟨gn, 0, none⟩ = some (.int .i64 a0_0) := (blk_cell BN.out 0).trans rfl; have hcz1 : w1.cell? ⟨gn, 1, none⟩ = some (.int .i64 a0_1) := (blk_cell BN.out 1).trans rfl; have hcz2 : w1.cell? ⟨gn, 2, none⟩ = some (.int .i64 a0_2) := (blk_cell BN.out 2).trans rfl; have hcz3 : w1.cell? ⟨gn, 3, none⟩ = some (.slice A0_3 l0_3.length c0_3) := (blk_cell BN.out 3).trans rfl)
    | (go_at_call 33; refine (level_Leads.calls k a0_0 a0_1 a0_2 A0_3 c0_3 l0_3 A1 c1 l1 a2 leads er _ ?s1 HC.out ?s2 HC1.out HLE.out).mono ?_; (case s1 => exact Kd.C_below HR.out HB1.out); (case s2 => exact Kd.C_below HF.out HB1.out); rintro e w2 ⟨v8, rfl, ho, hb⟩; have HB2 := Aside0.mk (below_step HB1.out hb); clear ho hb HB1 BN hcz0 hcz1 hcz2 hcz3))
  (go_ret3); (exact ⟨_, _, rfl, Kd.R_nil _ _ _ _ _, Kd.S_nil _ _ _ _ _, HB2.out⟩)
theorem plain_Block.calls (k : Nat) (a0_0 : Int) (a0_1 : Int) (a0_2 : Int) (A0_3 : Option Addr) (c0_3 : Nat) (l0_3 : List (S30)) (A1 : Option Addr) (c1 : Nat) (l1 : List Int) (a2 : Int) (r1 : List Int) (r2 : List S61) (r3 : Int) (w : World) (hr0_3 : Kd.C k30 w A0_3 l0_3.length l0_3) (hc0_3 : l0_3.length ≤ c0_3) (hr1 : Kd.C (Kd.int .i64) w A1 l1.length l1) (hc1 : l1.length ≤ c1) (h : plain_Block.f k a0_0 a0_1 a0_2 l0_3 l1 a2 = some (r1, r2, r3)) :
  Calls Try.prog 28 #[.agg #[.int .i64 a0_0, .int .i64 a0_1, .int .i64 a0_2, .slice A0_3 l0_3.length c0_3], .slice A1 l1.length c1, .int .i64 a2] w fun e w' => ∃ v0_ v1_ : Value, e = .returned (.tuple #[v0_, v1_, .int .i64 r3]) ∧ Kd.R (Kd.int .i64) 2 w' w.heap.size (fun _ => True) v0_ r1 ∧ Kd.V k61 61 w' w.heap.size (fun k_ => w.heap.size ≤ k_ ∧ some k_ ≠ (v0_ : Value).ownBlock) v1_ r2 ∧ Below w.heap.size w w' :=
 (plain_Block.calls0 k a0_0 a0_1 a0_2 A0_3 c0_3 l0_3 A1 c1 l1 a2 r1 r2 r3 w hr0_3 hc0_3 hr1 hc1 h).mono (by rintro e w' ⟨v0_, v1_, he, h1, h2, h3⟩; exact ⟨v0_, v1_, he, h1, Kd.V_mono (Kd.R_V (Kd.R_bound (Kd.R_apart' (Kd.S_R h2) (Kd.R_typed h1) (by decide)))) (fun k hk => ⟨hk.2.1, hk.1.2⟩), h3⟩)
end Go.Proofs.Ytdiaedecnfbgdaa.PPlainBlocks
