/- For the law DecompTwice, for every input: printed by a program (wip/myprint), contracts by hand where it says MANUAL. -/
-- slim
import Derived.Test.YtnjdjnoncoeffaaPDecompTwicex0
import Derived.Test.YtnjdjnoncoeffaaPDecompTwicex6
import Derived.Test.YtnjdjnoncoeffaaPDecompTwicex7
import Derived.Test.YtnjdjnoncoeffaaPDecompTwicex9
import Derived.Test.YtnjdjnoncoeffaaPDecompTwicex10
import Derived.Test.YtnjdjnoncoeffaaPDecompTwicex14
import Derived.Test.YtnjdjnoncoeffaaPDecompTwicex16
import Derived.Test.YtnjdjnoncoeffaaPDecompTwicex17
import Derived.Deep.RegionHeld3
namespace Go.Proofs.Ytnjdjnoncoeffaa.PDecompTwice
open Go.RowKit Go.Proofs.YtnjdjnoncoeffaaW.PrintWords Go.Proofs.YtnjdjnoncoeffaaW.PrintLast Go.Proofs.YtnjdjnoncoeffaaW.PrintMore
attribute [local go_sem] max2_int min2_int max_two min_two max_three min_three max_four min_four
set_option linter.unusedVariables false
set_option linter.unusedSimpArgs false
/-! ### decomp_Split: function 10 -/
-- MANUAL: this contract was written by hand.
open Go.Proofs.YtnjdjnoncoeffaaW.Mine
/-- Items until none is left. -/
def dcRun (l : List S30) (s t : Int) (K : Nat) : Nat → List Int → Int → Nat → List (List Int) → List S36 → Option (List S36)
 | 0, _, _, _, _, _ => none
 | f + 1, left, value, first, ts, out =>
  if first + dcIxP (left.drop first) < left.length then
   (if out.length ≤ 1000000 then (dcTake l left s t value ((first + dcIxP (left.drop first) : Nat) : Int) K ts).bind fun q => dcRun l s t K f q.2.1 q.2.2.1 (first + dcIxP (left.drop first)) q.2.2.2 (out ++ [q.1]) else none)
  else some out
theorem dcRun.monoK (l : List S30) (s t : Int) (K : Nat) : ∀ (f : Nat) (left : List Int) (value : Int) (first : Nat) (ts : List (List Int)) (out : List S36), LeO (dcRun l s t K f left value first ts out) (dcRun l s t (K + 1) f left value first ts out)
 | 0, _, _, _, _, _ => fun r h => by simp [dcRun] at h
 | f + 1, left, value, first, ts, out => by
  rw [dcRun, dcRun]
  exact LeO.ite (LeO.ite (LeO.bind (dcTake.mono _ _ _ _ _ _ _ _) (fun q => dcRun.monoK l s t K f _ _ _ _ _)) (LeO.none _)) (LeO.refl _)
theorem dcRun.mono (l : List S30) (s t : Int) (K : Nat) : ∀ (f : Nat) (left : List Int) (value : Int) (first : Nat) (ts : List (List Int)) (out : List S36), LeO (dcRun l s t K f left value first ts out) (dcRun l s t K (f + 1) left value first ts out)
 | 0, _, _, _, _, _ => fun r h => by simp [dcRun] at h
 | f + 1, left, value, first, ts, out => by
  rw [dcRun, dcRun]
  exact LeO.ite (LeO.ite (LeO.bind (LeO.refl _) (fun q => dcRun.mono l s t K f _ _ _ _ _)) (LeO.none _)) (LeO.refl _)
/-- The arcs by the node at which they begin. -/
def dcRows (l : List S30) (m : Nat) (i : Nat) : List (List Int) := trAll (fun j => (rd_T30 l j).f0) m i
def decomp_Split.f (k : Nat) (a0_0 : Int) (a0_1 : Int) (a0_2 : Int) (l0_3 : List (S30)) (l1 : List Int) : Option (List S36 × Int) :=
 (flow_Value.f k a0_0 a0_1 a0_2 l0_3 l1).bind fun p => if p.2 = 0 then (if dcFit a0_0 a0_1 a0_2 l0_3 l1 = true then (dcRun l0_3 a0_1 a0_2 k k l1 p.1 0 (dcRows l0_3 (a0_0 + 1).toNat l0_3.length) []).bind (fun z => some (z, 0)) else none) else some ([], p.2)
theorem dcLeO_trans {α : Type} {a b c : Option α} (h : LeO a b) (k : LeO b c) : LeO a c := fun r hr => k r (h r hr)
theorem decomp_Split.mono : ∀ a0 a1 a2 a3 a4 k, LeO (decomp_Split.f k a0 a1 a2 a3 a4) (decomp_Split.f (k + 1) a0 a1 a2 a3 a4) := by
 intro a0 a1 a2 a3 a4 k
 unfold decomp_Split.f
 exact LeO.bind (flow_Value.mono _ _ _ _ _ _) (fun p => LeO.ite (LeO.ite (LeO.bind (dcLeO_trans (dcRun.monoK _ _ _ _ _ _ _ _ _ _) (dcRun.mono _ _ _ _ _ _ _ _ _ _)) (fun _ => LeO.refl _)) (LeO.none _)) (LeO.refl _))
theorem dcPk_stay {tn te ti tl : Nat} {own own' : Nat → Nat} {T : Nat → Prop} {w0 W W1 : World} {gn : Nat} {cn : Array Value} {vr : Value} {room : List Int} {gt : Nat} {ts : List (List Int)} (h : Pk tn te ti tl own w0 W gn cn vr room gt ts) (s : Stay own own' T W W1) (hb : Below w0.heap.size w0 W1) (h6 : ¬ T 6) (h7 : ¬ T 7) (h8 : ¬ T 8) (h10 : ∀ j, ¬ T (10 + j)) : Pk tn te ti tl own' w0 W1 gn cn vr room gt ts :=
 ⟨hb, h.net.stay s h6, h.room.stay s h8, h.tr.stay s h7 h10⟩
theorem dcRow_stay {e b : Nat} {d : Kd S36} {own own' : Nat → Nat} {W W1 : World} {v : Value} {xs : List S36} (h : Kd.S d e W b (fun k => own k = 3) v xs) (s : Stay own own' DlT W W1) : Kd.S d e W1 b (fun k => own' k = 3) v xs :=
 Kd.S_mono (Kd.S_move (Kd.S_bound h) (fun k hk => s.heap k hk.2.2.1 (by rw [hk.1]; unfold DlT; decide))) (fun k hk => (s.own k hk.2.2.1).trans hk.1)
theorem dcMore3 {own : Nat → Nat} {W : World} {k : Nat} (h : own k = 3 ∨ W.heap.size ≤ k) : more own W 3 k = 3 := by
 unfold more
 by_cases c : k < W.heap.size
 ·rw [if_pos c]
  rcases h with h | h
  ·exact h
  ·omega
 ·rw [if_neg c]
theorem dcRows_len (l : List S30) (m i : Nat) : (dcRows l m i).length = m := trAll_length _ _ _
theorem dcStart {tw te ti tl : Nat} {w0 W : World} {vl : Value} {left : List Int} {m gt gw : Nat} {cells : Array Value} (hB : Below w0.heap.size w0 W) (hr : (Kd.int .i64).R te W w0.heap.size (fun _ => True) vl left) (ht : W.heap[gt]? = some (.cells (madeCells #[.slice none 0 0] m) tl (0, 0))) (hw : W.heap[gw]? = some (.cells cells tw (0, 0)))
  (h1 : w0.heap.size ≤ gt ∧ w0.heap.size ≤ gw ∧ gt ≠ gw) (e1 : te ≠ tl) (e2 : te ≠ tw) : ∃ own, own gt = 7 ∧ Pk tw te ti tl own w0 W gw cells vl left gt (List.replicate m []) := by
 refine ⟨fun k => if k = gw then 6 else if k = gt then 7 else 8, by show (if gt = gw then 6 else if gt = gt then 7 else 8) = 7; rw [if_neg h1.2.2, if_pos rfl], hB, ⟨if_pos rfl, h1.2.1, hw⟩, ?_, ⟨by show (if gt = gw then 6 else if gt = gt then 7 else 8) = 7; rw [if_neg h1.2.2, if_pos rfl], h1.1, _, ht, by rw [size_madeCells, List.length_replicate], fun j x hj => ?_⟩⟩
 ·refine Kd.R_mono (Kd.R_types (Kd.R_types hr ht (by intro q hq; rcases List.mem_cons.1 hq with rfl | hq; exact e1; cases hq)) hw (by intro q hq; rcases List.mem_cons.1 hq with rfl | hq; exact e2; cases hq)) (fun k hk => ?_)
  show (if k = gw then 6 else if k = gt then 7 else 8) = 8
  rw [if_neg hk.2, if_neg hk.1.2]
 ·obtain ⟨hjl, hx⟩ := List.getElem?_eq_some_iff.1 hj
  rw [List.length_replicate] at hjl
  simp at hx
  subst hx
  exact ⟨.slice none 0 0, made_at hjl, Kd.R_nil _ _ _ _ _⟩
set_option maxHeartbeats 8000000 in
set_option maxRecDepth 100000 in
theorem decomp_Split.calls (k : Nat) (a0_0 : Int) (a0_1 : Int) (a0_2 : Int) (A0_3 : Option Addr) (c0_3 : Nat) (l0_3 : List (S30)) (A1 : Option Addr) (c1 : Nat) (l1 : List Int) (r1 : List S36) (r2 : Int) (w : World) (hr0_3 : Kd.C k30 w A0_3 l0_3.length l0_3) (hc0_3 : l0_3.length ≤ c0_3) (hr1 : Kd.C (Kd.int .i64) w A1 l1.length l1) (hc1 : l1.length ≤ c1) (h : decomp_Split.f k a0_0 a0_1 a0_2 l0_3 l1 = some (r1, r2)) :
  Calls Try.prog 10 #[.agg #[.int .i64 a0_0, .int .i64 a0_1, .int .i64 a0_2, .slice A0_3 l0_3.length c0_3], .slice A1 l1.length c1] w fun e w' => ∃ v0_ : Value, e = .returned (.tuple #[v0_, .int .i64 r2]) ∧ Kd.S k36 36 w' w.heap.size (fun _ => True) v0_ r1 ∧ Below w.heap.size w w' := by
 have hu26 := Try.underlying26
 have hu28 := Try.underlying30
 have hu36 := Try.underlying36
 have hu98 := Try.underlying58
 unfold decomp_Split.f at h
 obtain ⟨⟨vv, er⟩, hval, h⟩ := Option.bind_eq_some_iff.mp h
 simp only at h
 have HVA := Aside0.mk hval
 have HR := Aside0.mk hr0_3
 have HC := Aside0.mk hc0_3
 have HF := Aside0.mk hr1
 have HC1 := Aside0.mk hc1
 have HB := Aside0.mk (Below.refl w.heap.size w)
 clear hval hr0_3 hc0_3 hr1 hc1
 by_cases e0 : er = 0
 ·rw [if_pos e0] at h
  subst e0
  by_cases e1 : dcFit a0_0 a0_1 a0_2 l0_3 l1 = true
  ·rw [if_pos e1] at h
   (obtain ⟨ro, hrun, h⟩ := Option.bind_eq_some_iff.mp h);(simp only [Option.some.injEq, Prod.mk.injEq] at h);(obtain ⟨rfl, rfl⟩ := h);(have HRUN := Aside0.mk hrun);(have HFIT := Aside0.mk e1);(have hf2 := e1);(simp only [dcFit, Bool.and_eq_true, decide_eq_true_eq] at hf2);(obtain ⟨⟨f0, f1, f2, f3, f4, f5, f6, f7⟩, f8⟩ := hf2);(obtain ⟨m, hm⟩ : ∃ m : Nat, (m : Int) = a0_0 + 1 := ⟨(a0_0 + 1).toNat, by omega⟩);(have hmn : (a0_0 + 1).toNat = m := by omega);(have HM := Aside0.mk hmn);(have HMN := Aside0.mk hm);(have HFF : Aside0 (1 ≤ a0_0 ∧ a0_0 ≤ 1000000 ∧ l0_3.length ≤ 2000 ∧ l1.length = l0_3.length ∧ m ≤ 1000001) := ⟨⟨f0, f1, f6, f7, by omega⟩⟩)
   have HFA : Aside0 (∀ j : Nat, j < l0_3.length → 0 ≤ (rd_T30 l0_3 (j : Int)).f0 ∧ (rd_T30 l0_3 (j : Int)).f0 ≤ a0_0) := ⟨fun j hj => by
    (have e_ : rd_T30 l0_3 (j : Int) = l0_3[j] := by simp [rd_T30, hj]);(rw [e_]);(have h_ := of_decide_eq_true (List.all_eq_true.1 f8 l0_3[j] (List.getElem_mem hj)))
    exact ⟨h_.1, h_.2.1⟩⟩
   (have HL3 : Aside0 (clone64.f l1 = some l1) := ⟨by unfold clone64.f; rw [if_pos (by omega)]⟩);(obtain ⟨i0, hi, hz0, hz1, hz2⟩ := info_parts info22)
   have hmk : ∀ W : World, (Instr.makeSlice 56 (.int .i64 (m : Int)) (.int .i64 (m : Int))).run Try.prog W = .ok (.slice (some ⟨W.heap.size, 0, none⟩) m m) (W.alloc (.cells (madeCells #[.slice none 0 0] m) 22)) := fun W => by
    (have hr := run_make (P := Try.prog) W 56 22 i0 (.slice none 0 0) Try.underlying56 hi hz0 .i64 .i64 (m : Int) (m : Int) (by omega) (by omega) (by rw [hz2]; omega) (by omega));(simp only [Int.toNat_natCast] at hr);(rw [hz1, Nat.mul_one] at hr);(exact hr)
   (have HMK := Aside0.mk hmk);(have hwm : IntKind.i64.wrap (a0_0 + 1) = (m : Int) := by rw [IntKind.wrap_i64]; omega);(have hwm2 : wrap64 (a0_0 + 1) = (m : Int) := by unfold wrap64; omega);(have HWM := Aside0.mk hwm);(have HWM2 := Aside0.mk hwm2);(clear hrun e1 f0 f1 f2 f3 f4 f5 f6 f7 f8 hm hmn hi hz0 hz1 hz2 hmk hwm hwm2)
   go_enter Try.func10, Try.ntmps10
   go_wp2_with (first
    | ((with_reducible refine gate_dst (N := 2) rfl ?_); refine box_event ?hg (N := 2) ?hd (cs := #[.int .i64 a0_0, .int .i64 a0_1, .int .i64 a0_2, .slice A0_3 l0_3.length c0_3]) (t := 26) ?hr ?_; (case hd => rfl); (case hg => rfl); (case hr => first | (go_simp; done) | (go_simp; rfl)); intro gn hg w1 hbox hb; have HB1 := Aside0.mk (below_step HB.out hb); have BN := Aside0.mk hbox; clear HB hb hbox hg; have hcz0 : w1.cell? ⟨gn, 0, none⟩ = some (.int .i64 a0_0) := (blk_cell BN.out 0).trans rfl; have hcz1 : w1.cell? ⟨gn, 1, none⟩ = some (.int .i64 a0_1) := (blk_cell BN.out 1).trans rfl; have hcz2 : w1.cell? ⟨gn, 2, none⟩ = some (.int .i64 a0_2) := (blk_cell BN.out 2).trans rfl; have hcz3 : w1.cell? ⟨gn, 3, none⟩ = some (.slice A0_3 l0_3.length c0_3) := (blk_cell BN.out 3).trans rfl)
    | (go_at_call 14; refine (flow_Value.calls k a0_0 a0_1 a0_2 A0_3 c0_3 l0_3 A1 c1 l1 vv 0 _ ?s1 HC.out ?s2 HC1.out HVA.out).mono ?_; (case s1 => exact Kd.C_below HR.out HB1.out); (case s2 => exact Kd.C_below HF.out HB1.out); rintro e w2 ⟨rfl, hb⟩; have HB2 := Aside0.mk (below_step HB1.out hb); have BN2 := Aside0.mk (blk_below BN.out hb); clear hb HB1 BN hcz0 hcz1 hcz2 hcz3; have hcz0 : w2.cell? ⟨gn, 0, none⟩ = some (.int .i64 a0_0) := (blk_cell BN2.out 0).trans rfl; have hcz1 : w2.cell? ⟨gn, 1, none⟩ = some (.int .i64 a0_1) := (blk_cell BN2.out 1).trans rfl; have hcz2 : w2.cell? ⟨gn, 2, none⟩ = some (.int .i64 a0_2) := (blk_cell BN2.out 2).trans rfl; have hcz3 : w2.cell? ⟨gn, 3, none⟩ = some (.slice A0_3 l0_3.length c0_3) := (blk_cell BN2.out 3).trans rfl))
   go_cut [8] (fun v8 wc => ∃ (gw gt : Nat) (A5 : Option Addr) (c5 : Nat), v8 = .pointer (some ⟨gw, 0, none⟩) ∧ (∃ own : Nat → Nat, Aside0 (Pk 58 2 3 22 own w wc gw #[.int .i64 a0_0, .int .i64 a0_1, .int .i64 a0_2, .slice A0_3 l0_3.length c0_3, .slice A5 l1.length c5, .int .i64 vv, .slice (some ⟨gt, 0, none⟩) m m, .int .i64 0] (.slice A5 l1.length c5) l1 gt (List.replicate m []))) ∧ Aside0 (wc.cell? ⟨gn, 3, none⟩ = some (.slice A0_3 l0_3.length c0_3)))
   case first =>
    (have hmk := HMK.out);(have hwm := HWM.out);(have hwm2 := HWM2.out)
    go_region_held3 (fun W_ => W_.cell? ⟨gn, 0, none⟩ = some (.int .i64 a0_0) ∧ W_.cell? ⟨gn, 1, none⟩ = some (.int .i64 a0_1) ∧ W_.cell? ⟨gn, 2, none⟩ = some (.int .i64 a0_2) ∧ W_.cell? ⟨gn, 3, none⟩ = some (.slice A0_3 l0_3.length c0_3)) (go_keep)
     (first | (go_at_call 19; refine (clone64.calls A1 c1 l1 l1 _ ?s1 HC1.out HL3.out).mono ?_; (case s1 => first | exact Kd.C_below HF.out (below_drew HB2.out) | exact Kd.C_below HF.out (below_alloc (below_drew HB2.out) _) | exact Kd.C_below HF.out (below_drew (below_alloc HB2.out _))); rintro e w5 ⟨v5, rfl, ho, hb⟩; obtain ⟨A5, c5, e5⟩ := Kd.R_slice ho; subst e5; have HO5 := Aside0.mk ho; have HB5 := Aside0.mk hb; have BN5 : Aside0 (w5.heap[gn]? = some (.cells #[.int .i64 a0_0, .int .i64 a0_1, .int .i64 a0_2, .slice A0_3 l0_3.length c0_3] 26 (0, 0))) := (by first | exact ⟨blk_below (blk_drew BN2.out) hb⟩ | exact ⟨blk_below (blk_alloc (blk_drew BN2.out) _) hb⟩ | exact ⟨blk_below (blk_drew (blk_alloc BN2.out _)) hb⟩); clear ho hb; have hcz0 : w5.cell? ⟨gn, 0, none⟩ = some (.int .i64 a0_0) := (blk_cell BN5.out 0).trans rfl; have hcz1 : w5.cell? ⟨gn, 1, none⟩ = some (.int .i64 a0_1) := (blk_cell BN5.out 1).trans rfl; have hcz2 : w5.cell? ⟨gn, 2, none⟩ = some (.int .i64 a0_2) := (blk_cell BN5.out 2).trans rfl; have hcz3 : w5.cell? ⟨gn, 3, none⟩ = some (.slice A0_3 l0_3.length c0_3) := (blk_cell BN5.out 3).trans rfl))
    all_goals (go_wp2_with fail)
    all_goals go_meet
    case rel =>
     (have hb2d : Below w2.heap.size w2 w5 := below_step (below_drew (Below.refl _ _)) HB5.out);(have hbA : Below w5.heap.size w5 (w5.alloc (.cells (madeCells #[.slice none 0 0] m) 22)) := below_alloc (Below.refl _ _) _);(have hbC := below_alloc (Below.refl (w5.alloc (.cells (madeCells #[.slice none 0 0] m) 22)).heap.size (w5.alloc (.cells (madeCells #[.slice none 0 0] m) 22))) (.cells #[.int .i64 a0_0, .int .i64 a0_1, .int .i64 a0_2, .slice A0_3 l0_3.length c0_3, .slice A5 l1.length c5, .int .i64 vv, .slice (some ⟨w5.heap.size, 0, none⟩) m m, .int .i64 0] 58));(have hbw := below_step (below_step (below_step HB2.out hb2d) hbA) hbC);(have hz := below_size HB2.out);(have hz5 := below_size hb2d);(have hsz : (w5.alloc (.cells (madeCells #[.slice none 0 0] m) 22)).heap.size = w5.heap.size + 1 := by simp);(obtain ⟨own, _, hp⟩ := dcStart (te := 2) (ti := 3) (left := l1) hbw (Kd.R_below (Kd.R_below (Kd.R_lower HO5.out (by show w.heap.size ≤ w2.heap.size; exact hz)) hbA) hbC) (blk_below (blk_new w5 _) hbC) (blk_new _ _) ⟨by omega, by omega, by omega⟩ (by decide) (by decide));(rw [hsz] at hp);(exact ⟨_, w5.heap.size, A5, c5, rfl, ⟨own, ⟨hp⟩⟩, ⟨(blk_cell (blk_below (blk_below BN5.out hbA) hbC) 3).trans rfl⟩⟩)
    case rel =>
     (have hbA : Below w2.heap.size w2 (w2.alloc (.cells (madeCells #[.slice none 0 0] m) 22)).drew := below_drew (below_alloc (Below.refl _ _) _));(have hbC := below_alloc (Below.refl w5.heap.size w5) (.cells #[.int .i64 a0_0, .int .i64 a0_1, .int .i64 a0_2, .slice A0_3 l0_3.length c0_3, .slice A5 l1.length c5, .int .i64 vv, .slice (some ⟨w2.heap.size, 0, none⟩) m m, .int .i64 0] 58));(have hbw := below_step (below_step (below_step HB2.out hbA) HB5.out) hbC);(have hz := below_size HB2.out);(have hz5 := below_size HB5.out);(have hsz : (w2.alloc (.cells (madeCells #[.slice none 0 0] m) 22)).drew.heap.size = w2.heap.size + 1 := by simp);(obtain ⟨own, _, hp⟩ := dcStart (te := 2) (ti := 3) (left := l1) hbw (Kd.R_below (Kd.R_lower HO5.out (by omega)) hbC) (blk_below (blk_below (blk_drew (blk_new w2 _)) HB5.out) hbC) (blk_new _ _) ⟨by omega, by omega, by omega⟩ (by decide) (by decide));(exact ⟨_, w2.heap.size, A5, c5, rfl, ⟨own, ⟨hp⟩⟩, ⟨(blk_cell (blk_below BN5.out hbC) 3).trans rfl⟩⟩)
   case rest =>
    (clear hcz0 hcz1 hcz2 hcz3 HB2 BN2 HMK HWM HWM2);(obtain ⟨gw, gt, A5, c5, hv8, ⟨own, HPK⟩, HCZ⟩ := hcut);(subst hv8);(have hcz3 := HCZ.out)
    go_wp2_with fail
    clear hcz3 HCZ
    go_loopg [34] (l0_3.length + 1) (fun kq v34 wr => ∃ (j : Nat) (own : Nat → Nat), v34 = .int .i64 j ∧ Aside0 (j + kq = l0_3.length + 1 ∧ 0 < kq) ∧ Aside0 (Pk 58 2 3 22 own w wr gw #[.int .i64 a0_0, .int .i64 a0_1, .int .i64 a0_2, .slice A0_3 l0_3.length c0_3, .slice A5 l1.length c5, .int .i64 vv, .slice (some ⟨gt, 0, none⟩) m m, .int .i64 0] (.slice A5 l1.length c5) l1 gt (dcRows l0_3 m j)))
    case atStart => exact ⟨0, own, rfl, ⟨by omega⟩, HPK⟩
    case round =>
     (clear HPK);(obtain ⟨j, own, rfl, HQ, HP⟩ := hrel)
     by_cases hlt : j < l0_3.length
     ·(have hlt2 : (j : Int) < (l0_3.length : Int) := by omega);(have hj0 : (0 : Int) ≤ (j : Int) := by omega);(obtain ⟨ad, ead, hx0, hx1, hx2⟩ := at_T30 (Kd.C_below HR.out HP.out.below) (j : Int) hj0 hlt2);(subst ead);(rw [Int.toNat_natCast] at hx0 hx1 hx2);(have hfa := HFA.out j hlt);(obtain ⟨v, hv⟩ : ∃ v : Nat, (rd_T30 l0_3 (j : Int)).f0 = (v : Int) := ⟨((rd_T30 l0_3 (j : Int)).f0).toNat, by omega⟩);(have hmn := HMN.out);(have hvm : v < m := by omega);(have hvm2 : (v : Int) < (m : Int) := by omega);(have hv0 : (0 : Int) ≤ (v : Int) := by omega);(rw [hv] at hx0);(generalize (rd_T30 l0_3 (j : Int)).f1 = y1 at hx1);(generalize (rd_T30 l0_3 (j : Int)).f2 = y2 at hx2);(have hel := List.getElem?_eq_getElem (l := dcRows l0_3 m j) (i := v) (by rw [dcRows_len]; exact hvm));(obtain ⟨x, hx⟩ : ∃ x, (dcRows l0_3 m j)[v]'(by rw [dcRows_len]; exact hvm) = x := ⟨_, rfl⟩);(rw [hx] at hel);(have HX := Aside0.mk hel)
      have HXL : Aside0 (x.length ≤ 2000) := ⟨by
       (have h1_ := (trAll_mem _ m j v x hel).1);(have h2_ := HFF.out)
       omega⟩
      have hadd : dcRows l0_3 m (j + 1) = (dcRows l0_3 m j).set v (x ++ [(j : Int)]) := by
       show (dcRows l0_3 m j).set ((rd_T30 l0_3 (j : Int)).f0).toNat ((dcRows l0_3 m j).getD ((rd_T30 l0_3 (j : Int)).f0).toNat [] ++ [(j : Int)]) = _
       rw [hv, Int.toNat_natCast, List.getD_eq_getElem?_getD, hel]
       rfl
      (have HADD := Aside0.mk hadd);(clear hfa hv hmn hvm hel hx hadd hlt)
      go_wp2_with ((with_reducible refine gate_dst (N := 10) rfl ?_); refine box_event ?hg (N := 10) ?hd (cs := #[.int .i64 0, .int .i64 0, .int .i64 0]) (t := 30) ?hr ?_; (case hd => rfl); (case hg => rfl); (case hr => first | (go_simp; done) | (go_simp; rfl)); intro ga hga w5 hbox hb; have BA := Aside0.mk hbox; have GA : Aside0 (ga = wr.heap.size) := ⟨hga⟩; have HB5 := Aside0.mk hb; have hc0 : w5.cell? ⟨ga, 0, none⟩ = some (.int .i64 0) := (blk_cell hbox 0).trans rfl; have hc1 : w5.cell? ⟨ga, 1, none⟩ = some (.int .i64 0) := (blk_cell hbox 1).trans rfl; have hc2 : w5.cell? ⟨ga, 2, none⟩ = some (.int .i64 0) := (blk_cell hbox 2).trans rfl; have hq0 : w5.frozen? ⟨ga, 0, none⟩ = false := blk_frozen hbox 0; have hq1 : w5.frozen? ⟨ga, 1, none⟩ = false := blk_frozen hbox 1; have hq2 : w5.frozen? ⟨ga, 2, none⟩ = false := blk_frozen hbox 2; clear hbox hga hb)
      have hp6 : Pk 58 2 3 22 (mark own ga 1) w (((w5.setCell ⟨ga, 0, none⟩ (.int .i64 (v : Int))).setCell ⟨ga, 1, none⟩ (.int .i64 y1)).setCell ⟨ga, 2, none⟩ (.int .i64 y2)) gw #[.int .i64 a0_0, .int .i64 a0_1, .int .i64 a0_2, .slice (some ad) l0_3.length c0_3, .slice A5 l1.length c5, .int .i64 vv, .slice (some ⟨gt, 0, none⟩) m m, .int .i64 0] (.slice A5 l1.length c5) l1 gt (dcRows l0_3 m j) := by
       (have hb5 := HB5.out);(have hga := GA.out);(have h0 := below_size HP.out.below);(have s1 : Stay own (mark own ga 1) (fun _ => False) wr w5 := Stay.mark hb5 (Nat.le_of_eq hga.symm));(have s2 : Stay (mark own ga 1) (mark own ga 1) (fun t => t = 1) w5 (((w5.setCell ⟨ga, 0, none⟩ (.int .i64 (v : Int))).setCell ⟨ga, 1, none⟩ (.int .i64 y1)).setCell ⟨ga, 2, none⟩ (.int .i64 y2)) := ((Stay.set (p := ⟨ga, 0, none⟩) (mark_at own ga 1)).trans (dc_size _ _) (Stay.set (p := ⟨ga, 1, none⟩) (mark_at own ga 1))).trans (Nat.le_trans (dc_size _ _) (dc_size _ _)) (Stay.set (p := ⟨ga, 2, none⟩) (mark_at own ga 1)));(have hg0 : w.heap.size ≤ ga := by omega);(exact dcPk_stay (dcPk_stay HP.out s1 (below_step HP.out.below hb5) id id id (fun _ => id)) s2 (below_set (below_set (below_set (below_step HP.out.below hb5) hg0) hg0) hg0) (by decide) (by decide) (by decide) (fun j => by omega))
      (have hba : (((w5.setCell ⟨ga, 0, none⟩ (.int .i64 (v : Int))).setCell ⟨ga, 1, none⟩ (.int .i64 y1)).setCell ⟨ga, 2, none⟩ (.int .i64 y2)).heap[ga]? = some (.cells #[.int .i64 (v : Int), .int .i64 y1, .int .i64 y2] 30 (0, 0)) := blk_put (blk_put (blk_put BA.out 0 _ rfl) 1 _ rfl) 2 _ rfl);(have HP6 := Aside0.mk hp6);(have BA6 : Aside0 (mark own ga 1 ga = 1 ∧ (((w5.setCell ⟨ga, 0, none⟩ (.int .i64 (v : Int))).setCell ⟨ga, 1, none⟩ (.int .i64 y1)).setCell ⟨ga, 2, none⟩ (.int .i64 y2)).heap[ga]? = some (.cells #[.int .i64 (v : Int), .int .i64 y1, .int .i64 y2] 30 (0, 0))) := ⟨mark_at own ga 1, hba⟩);(clear hp6 hba hc0 hc1 hc2 hq0 hq1 hq2 BA GA HB5 HP hx0 hx1 hx2);(generalize mark own ga 1 = own2 at *);(generalize (((w5.setCell ⟨ga, 0, none⟩ (.int .i64 (v : Int))).setCell ⟨ga, 1, none⟩ (.int .i64 y1)).setCell ⟨ga, 2, none⟩ (.int .i64 y2)) = w6 at *);(obtain ⟨Ax, cx, hxc, hxf, hxr⟩ := HP6.out.tr.at HX.out);(have HXC := Aside0.mk hxc);(have HXR := Aside0.mk hxr);(clear hxr);(have h6 : w6.cell? ⟨gw, 6, none⟩ = some (.slice (some ⟨gt, 0, none⟩) m m) := (blk_cell HP6.out.net.2.2 6).trans rfl);(have h6a : ∀ o : Obj, (w6.alloc o).cell? ⟨gw, 6, none⟩ = some (.slice (some ⟨gt, 0, none⟩) m m) := fun o => (blk_cell (blk_alloc HP6.out.net.2.2 o) 6).trans rfl);(have hxa : ∀ o : Obj, (w6.alloc o).cell? ⟨gt, v, none⟩ = some (.slice Ax x.length cx) := fun o => pw_cell_below (below_alloc (Below.refl _ _) o) HXC.out);(have hca : w6.cell? ⟨ga, 0, none⟩ = some (.int .i64 (v : Int)) := (blk_cell BA6.out.2 0).trans rfl);(have hcaa : ∀ o : Obj, (w6.alloc o).cell? ⟨ga, 0, none⟩ = some (.int .i64 (v : Int)) := fun o => (blk_cell (blk_alloc BA6.out.2 o) 0).trans rfl);(refine wp_region_held_drew (S := (fun W_ => W_.cell? ⟨gw, 6, none⟩ = some (.slice (some ⟨gt, 0, none⟩) m m) ∧ W_.cell? ⟨ga, 0, none⟩ = some (.int .i64 (v : Int)))) (by kernel_rfl) (show _ from ⟨h6, hca⟩) (fun hHeld => ?_));(refine wpAnyH_take (i := 0) (v := ?_) rfl (by kernel_rfl) (by kernel_rfl) (by kernel_rfl) (fun _ _ _ h => h) (Or.inl ⟨by rfl, ?hy⟩) (by assumption) ?_)
      case hy => (intro w_ hSw; (try dsimp only at hSw); go_simp; try (with_reducible rfl))
      ((try simp only [Act.put, List.setIfInBounds_toArray, List.set_cons_zero, List.set_cons_succ]));(refine wpAnyH_take (i := 1) (v := ?_) rfl (by kernel_rfl) (by kernel_rfl) (by kernel_rfl) (fun _ _ _ h => h) (Or.inl ⟨by rfl, ?hy⟩) (by assumption) ?_)
      case hy => (intro w_ hSw; (try dsimp only at hSw); go_simp; try (with_reducible rfl))
      ((try simp only [Act.put, List.setIfInBounds_toArray, List.set_cons_zero, List.set_cons_succ]));(refine wpAnyH_take (i := 2) (v := ?_) rfl (by kernel_rfl) (by kernel_rfl) (by kernel_rfl) (fun _ _ _ h => h) (Or.inl ⟨by rfl, ?hy⟩) (by assumption) ?_)
      case hy => (intro w_ hSw; (try dsimp only at hSw); go_simp; try (with_reducible rfl))
      ((try simp only [Act.put, List.setIfInBounds_toArray, List.set_cons_zero, List.set_cons_succ]));(refine wpAnyH_take (i := 3) (v := ?_) rfl (by kernel_rfl) (by kernel_rfl) (by kernel_rfl) (fun _ _ _ h => h) (Or.inl ⟨by rfl, ?hy⟩) (by assumption) ?_)
      case hy => (intro w_ hSw; (try dsimp only at hSw); go_simp; try (with_reducible rfl))
      ((try simp only [Act.put, List.setIfInBounds_toArray, List.set_cons_zero, List.set_cons_succ]));(refine wpAnyH_take (i := 4) (v := ?_) rfl (by kernel_rfl) (by kernel_rfl) (by kernel_rfl) (fun _ _ _ h => h) (Or.inl ⟨by rfl, ?hy⟩) (by assumption) ?_)
      case hy => (intro w_ hSw; (try dsimp only at hSw); go_simp; try (with_reducible rfl))
      ((try simp only [Act.put, List.setIfInBounds_toArray, List.set_cons_zero, List.set_cons_succ]));(refine wpAnyH_take (i := 5) (v := ?_) rfl (by kernel_rfl) (by kernel_rfl) (by kernel_rfl) (fun _ _ _ h => h) (Or.inl ⟨by rfl, ?hy⟩) (by assumption) ?_)
      case hy => (intro w_ hSw; (try dsimp only at hSw); go_simp; try (with_reducible rfl))
      ((try simp only [Act.put, List.setIfInBounds_toArray, List.set_cons_zero, List.set_cons_succ]));(refine wpAnyH_take (i := 6) (v := ?_) rfl (by kernel_rfl) (by kernel_rfl) (by kernel_rfl) (fun _ _ _ h => h) (Or.inl ⟨by rfl, ?hy⟩) (by assumption) ?_)
      case hy => (intro w_ hSw; (try dsimp only at hSw); go_simp; try (with_reducible rfl))
      ((try simp only [Act.put, List.setIfInBounds_toArray, List.set_cons_zero, List.set_cons_succ]));(refine wpAnyH_take (i := 7) (v := ?_) rfl (by kernel_rfl) (by kernel_rfl) (by kernel_rfl) (fun _ _ _ h => h) (Or.inl ⟨by rfl, ?hy⟩) (by assumption) ?_)
      case hy => (intro w_ hSw; (try dsimp only at hSw); go_simp; try (with_reducible rfl))
      ((try simp only [Act.put, List.setIfInBounds_toArray, List.set_cons_zero, List.set_cons_succ]));(refine wpAnyH_take (i := 8) (v := ?_) rfl (by kernel_rfl) (by kernel_rfl) (by kernel_rfl) (fun _ _ _ h => h) (Or.inl ⟨by rfl, ?hy⟩) (by assumption) ?_)
      case hy => (intro w_ hSw; (try dsimp only at hSw); go_simp; try (with_reducible rfl))
      ((try simp only [Act.put, List.setIfInBounds_toArray, List.set_cons_zero, List.set_cons_succ]));(refine wpAnyH_take (i := 9) (v := ?_) rfl (by kernel_rfl) (by kernel_rfl) (by kernel_rfl) (fun _ _ _ h => h) (Or.inl ⟨by rfl, ?hy⟩) (by assumption) ?_)
      case hy => (intro w_ hSw; (try dsimp only at hSw); go_simp; try (with_reducible rfl))
      ((try simp only [Act.put, List.setIfInBounds_toArray, List.set_cons_zero, List.set_cons_succ]));(refine wpAnyH_take (i := 10) (v := ?_) rfl (by kernel_rfl) (by kernel_rfl) (by kernel_rfl) (fun _ _ _ h => h) (Or.inl ⟨by rfl, ?hy⟩) (by assumption) ?_)
      case hy => (intro w_ hSw; (try dsimp only at hSw); go_simp; try (with_reducible rfl))
      ((try simp only [Act.put, List.setIfInBounds_toArray, List.set_cons_zero, List.set_cons_succ]));(refine wpAnyH_take (i := 11) (v := ?_) rfl (by kernel_rfl) (by kernel_rfl) (by kernel_rfl) (fun _ _ _ h => h) (Or.inl ⟨by rfl, ?hy⟩) (by assumption) ?_)
      case hy => (intro w_ hSw; (try dsimp only at hSw); go_simp; try (with_reducible rfl))
      ((try simp only [Act.put, List.setIfInBounds_toArray, List.set_cons_zero, List.set_cons_succ]));(refine wpAnyH_take (i := 12) (v := ?_) rfl (by kernel_rfl) (by kernel_rfl) (by kernel_rfl) (fun _ _ _ h => h) (Or.inl ⟨by rfl, ?hy⟩) (by assumption) ?_)
      case hy => (intro w_ hSw; (try dsimp only at hSw); go_simp; try (with_reducible rfl))
      ((try simp only [Act.put, List.setIfInBounds_toArray, List.set_cons_zero, List.set_cons_succ]));(refine wpAnyH_take (i := 14) (v := ?_) rfl (by kernel_rfl) (by kernel_rfl) (by kernel_rfl) (fun _ _ _ h => h) (Or.inl ⟨by rfl, ?hy⟩) (by assumption) ?_)
      case hy => (intro w_ hSw; (try dsimp only at hSw); go_simp; try (with_reducible rfl))
      ((try simp only [Act.put, List.setIfInBounds_toArray, List.set_cons_zero, List.set_cons_succ]));(refine wpAnyH_ready (rs := [13, 15]) (by kernel_rfl) (by simp) ?_);(refine AllReadyH.cons rfl (fun K_ hK => ?_) (AllReadyH.cons rfl (fun K_ hK => ?_) AllReadyH.nil))
      ·(try simp only [List.getElem_toArray, List.getElem_cons_succ, List.getElem_cons_zero])
       go_simp
       refine hK.out _ _ ?kp (fun hHeld => ?_)
       case kp => exact ⟨h6, hca⟩
       (clear hK K_);((try simp only [Act.put, List.setIfInBounds_toArray, List.set_cons_zero, List.set_cons_succ]));(refine wpAnyH_ready (rs := [15]) (by kernel_rfl) (by simp) ?_);(refine AllReadyH.cons rfl (fun K_ hK => ?_) AllReadyH.nil);((try simp only [List.getElem_toArray, List.getElem_cons_succ, List.getElem_cons_zero]))
       go_simp
       refine hK.out _ _ ?kp (fun hHeld => ?_)
       case kp => exact ⟨h6a _, hcaa _⟩
       (clear hK K_);((try simp only [Act.put, List.setIfInBounds_toArray, List.set_cons_zero, List.set_cons_succ]));(refine wpAnyH_ready (rs := [16]) (by kernel_rfl) (by simp) ?_);(refine AllReadyH.cons rfl (fun K_ hK => ?_) AllReadyH.nil)
       (refine Kd.R_append_step (Kd.int .i64) (w0 := w) (W := w6.drew) w.heap.size (by rfl) (.tmp 52) (.tmp 54) 22 3 (.int .i64 0) 8 rfl Try.underlying22 info3 rfl (by decide) (by omega) (.slice Ax x.length cx) x (j : Int) [.int .i64 (j : Int)] (fun k_ => own2 k_ = 10 + v ∨ w6.heap.size ≤ k_) (fun _ => False) rfl rfl ?pP (fun _ hk => hk.elim) ?pF ?pO ?pB ?pS ?pL ?_; (case pP => exact rfl); (case pF => exact (fun _ h_ => .inr h_)); (case pO => exact Kd.R_drew HXR.out.open_); (case pB => exact below_drew HP6.out.below); (case pS => exact below_size (below_drew HP6.out.below)); (case pL => have h_ := HXL.out; omega); intro u7 w7 ho hb7 hg hat; obtain ⟨A7, c7, eu⟩ := Kd.R_slice ho; subst eu; have hg6 : w6.grownBy w7 (Value.slice Ax x.length cx).ownBlock := ⟨hg.os, hg.tape, hg.output, hg.size, hg.block⟩; have hh := HP6.out.tr.hold HXC.out (fun k_ e_ => HXR.out.1 k_ e_) hg6; obtain ⟨hc7, hf7⟩ := hh; have h67 : w7.cell? ⟨gw, 6, none⟩ = some (.slice (some ⟨gt, 0, none⟩) m m) := (blk_cell (blk_grown HP6.out.net.2.2 hg6 (fun e_ => by have h1_ := HXR.out.1 gw e_.symm; have h2_ := HP6.out.net.1; omega)) 6).trans rfl; have hca7 : w7.cell? ⟨ga, 0, none⟩ = some (.int .i64 (v : Int)) := (blk_cell (blk_grown BA6.out.2 hg6 (fun e_ => by have h1_ := HXR.out.1 ga e_.symm; have h2_ := BA6.out.1; omega)) 0).trans rfl; have h67s : ∀ u_ : Value, (w7.setCell ⟨gt, v, none⟩ u_).cell? ⟨gw, 6, none⟩ = some (.slice (some ⟨gt, 0, none⟩) m m) := (fun u_ => (blk_cell (blk_far (blk_grown HP6.out.net.2.2 hg6 (fun e_ => by have h1_ := HXR.out.1 gw e_.symm; have h2_ := HP6.out.net.1; omega)) (fun e_ => by have h1_ := HP6.out.net.1; have h2_ := HP6.out.tr.1; have e2_ : gw = gt := e_; rw [e2_] at h1_; omega) u_) 6).trans rfl); have hca7s : ∀ u_ : Value, (w7.setCell ⟨gt, v, none⟩ u_).cell? ⟨ga, 0, none⟩ = some (.int .i64 (v : Int)) := (fun u_ => (blk_cell (blk_far (blk_grown BA6.out.2 hg6 (fun e_ => by have h1_ := HXR.out.1 ga e_.symm; have h2_ := BA6.out.1; omega)) (fun e_ => by have h1_ := BA6.out.1; have h2_ := HP6.out.tr.1; have e2_ : ga = gt := e_; rw [e2_] at h1_; omega) u_) 0).trans rfl); have HO7 := Aside0.mk ho; have HB7 := Aside0.mk hb7; have HG7 := Aside0.mk hg6; clear ho hb7 hg hg6 hat)
       refine hK.out _ _ ?kp (fun hHeld => ?_)
       case kp => exact ⟨h67, hca7⟩
       (clear hK K_);((try simp only [Act.put, List.setIfInBounds_toArray, List.set_cons_zero, List.set_cons_succ]));(refine wpAnyH_take (i := 17) (v := ?_) rfl (by kernel_rfl) (by kernel_rfl) (by kernel_rfl) (fun _ _ _ h => h) (Or.inl ⟨by rfl, ?hy⟩) (by assumption) ?_)
       case hy => (intro w_ hSw; (try dsimp only at hSw); go_simp; try (with_reducible rfl))
       ((try simp only [Act.put, List.setIfInBounds_toArray, List.set_cons_zero, List.set_cons_succ]));(refine wpAnyH_ready (rs := [18]) (by kernel_rfl) (by simp) ?_);(refine AllReadyH.cons rfl (fun K_ hK => ?_) AllReadyH.nil);((try simp only [List.getElem_toArray, List.getElem_cons_succ, List.getElem_cons_zero]))
       go_simp
       refine hK.out _ _ ?kp (fun hHeld => ?_)
       case kp => exact ⟨h67s _, hca7s _⟩
       (clear hK K_);((try simp only [Act.put, List.setIfInBounds_toArray, List.set_cons_zero, List.set_cons_succ]));(refine wpAnyH_done (by kernel_rfl) ?_ _);(have hpush := Pk.push HP6.out HX.out HXR.out HG7.out HO7.out HB7.out);(rw [← HADD.out] at hpush);(have elen : (x ++ [(j : Int)]).length = x.length + 1 := by simp);(rw [elen] at hpush);(have HPU := Aside0.mk hpush);(clear hpush hc7 hf7 h67 h6 h6a hxa hxc hxf hca hcaa hca7 h67s hca7s)
       try clear hHeld
       go_wp2_with fail
       obtain ⟨hk1, hk2⟩ := HQ.out
       go_roundg (gk - 1)
       case measure => omega
       case rel => exact ⟨j + 1, _, dc_succ (by have h_ := HFF.out; omega), ⟨by omega⟩, HPU⟩
      ·(try simp only [List.getElem_toArray, List.getElem_cons_succ, List.getElem_cons_zero])
       go_simp
       refine hK.out _ _ ?kp (fun hHeld => ?_)
       case kp => exact ⟨h6a _, hcaa _⟩
       (clear hK K_);((try simp only [Act.put, List.setIfInBounds_toArray, List.set_cons_zero, List.set_cons_succ]));(refine wpAnyH_ready (rs := [13]) (by kernel_rfl) (by simp) ?_);(refine AllReadyH.cons rfl (fun K_ hK => ?_) AllReadyH.nil);((try simp only [List.getElem_toArray, List.getElem_cons_succ, List.getElem_cons_zero]))
       go_simp
       refine hK.out _ _ ?kp (fun hHeld => ?_)
       case kp => exact ⟨h6a _, hcaa _⟩
       (clear hK K_);((try simp only [Act.put, List.setIfInBounds_toArray, List.set_cons_zero, List.set_cons_succ]));(refine wpAnyH_ready (rs := [16]) (by kernel_rfl) (by simp) ?_);(refine AllReadyH.cons rfl (fun K_ hK => ?_) AllReadyH.nil)
       (refine Kd.R_append_step (Kd.int .i64) (w0 := w) (W := w6.drew) w.heap.size (by rfl) (.tmp 52) (.tmp 54) 22 3 (.int .i64 0) 8 rfl Try.underlying22 info3 rfl (by decide) (by omega) (.slice Ax x.length cx) x (j : Int) [.int .i64 (j : Int)] (fun k_ => own2 k_ = 10 + v ∨ w6.heap.size ≤ k_) (fun _ => False) rfl rfl ?qP (fun _ hk => hk.elim) ?qF ?qO ?qB ?qS ?qL ?_; (case qP => exact rfl); (case qF => exact (fun _ h_ => .inr h_)); (case qO => exact Kd.R_drew HXR.out.open_); (case qB => exact below_drew HP6.out.below); (case qS => exact below_size (below_drew HP6.out.below)); (case qL => have h_ := HXL.out; omega); intro u7 w7 ho hb7 hg hat; obtain ⟨A7, c7, eu⟩ := Kd.R_slice ho; subst eu; have hg6 : w6.grownBy w7 (Value.slice Ax x.length cx).ownBlock := ⟨hg.os, hg.tape, hg.output, hg.size, hg.block⟩; have hh := HP6.out.tr.hold HXC.out (fun k_ e_ => HXR.out.1 k_ e_) hg6; obtain ⟨hc7, hf7⟩ := hh; have h67 : w7.cell? ⟨gw, 6, none⟩ = some (.slice (some ⟨gt, 0, none⟩) m m) := (blk_cell (blk_grown HP6.out.net.2.2 hg6 (fun e_ => by have h1_ := HXR.out.1 gw e_.symm; have h2_ := HP6.out.net.1; omega)) 6).trans rfl; have hca7 : w7.cell? ⟨ga, 0, none⟩ = some (.int .i64 (v : Int)) := (blk_cell (blk_grown BA6.out.2 hg6 (fun e_ => by have h1_ := HXR.out.1 ga e_.symm; have h2_ := BA6.out.1; omega)) 0).trans rfl; have h67s : ∀ u_ : Value, (w7.setCell ⟨gt, v, none⟩ u_).cell? ⟨gw, 6, none⟩ = some (.slice (some ⟨gt, 0, none⟩) m m) := (fun u_ => (blk_cell (blk_far (blk_grown HP6.out.net.2.2 hg6 (fun e_ => by have h1_ := HXR.out.1 gw e_.symm; have h2_ := HP6.out.net.1; omega)) (fun e_ => by have h1_ := HP6.out.net.1; have h2_ := HP6.out.tr.1; have e2_ : gw = gt := e_; rw [e2_] at h1_; omega) u_) 6).trans rfl); have hca7s : ∀ u_ : Value, (w7.setCell ⟨gt, v, none⟩ u_).cell? ⟨ga, 0, none⟩ = some (.int .i64 (v : Int)) := (fun u_ => (blk_cell (blk_far (blk_grown BA6.out.2 hg6 (fun e_ => by have h1_ := HXR.out.1 ga e_.symm; have h2_ := BA6.out.1; omega)) (fun e_ => by have h1_ := BA6.out.1; have h2_ := HP6.out.tr.1; have e2_ : ga = gt := e_; rw [e2_] at h1_; omega) u_) 0).trans rfl); have HO7 := Aside0.mk ho; have HB7 := Aside0.mk hb7; have HG7 := Aside0.mk hg6; clear ho hb7 hg hg6 hat)
       refine hK.out _ _ ?kp (fun hHeld => ?_)
       case kp => exact ⟨h67, hca7⟩
       (clear hK K_);((try simp only [Act.put, List.setIfInBounds_toArray, List.set_cons_zero, List.set_cons_succ]));(refine wpAnyH_take (i := 17) (v := ?_) rfl (by kernel_rfl) (by kernel_rfl) (by kernel_rfl) (fun _ _ _ h => h) (Or.inl ⟨by rfl, ?hy⟩) (by assumption) ?_)
       case hy => (intro w_ hSw; (try dsimp only at hSw); go_simp; try (with_reducible rfl))
       ((try simp only [Act.put, List.setIfInBounds_toArray, List.set_cons_zero, List.set_cons_succ]));(refine wpAnyH_ready (rs := [18]) (by kernel_rfl) (by simp) ?_);(refine AllReadyH.cons rfl (fun K_ hK => ?_) AllReadyH.nil);((try simp only [List.getElem_toArray, List.getElem_cons_succ, List.getElem_cons_zero]))
       go_simp
       refine hK.out _ _ ?kp (fun hHeld => ?_)
       case kp => exact ⟨h67s _, hca7s _⟩
       (clear hK K_);((try simp only [Act.put, List.setIfInBounds_toArray, List.set_cons_zero, List.set_cons_succ]));(refine wpAnyH_done (by kernel_rfl) ?_ _);(have hpush := Pk.push HP6.out HX.out HXR.out HG7.out HO7.out HB7.out);(rw [← HADD.out] at hpush);(have elen : (x ++ [(j : Int)]).length = x.length + 1 := by simp);(rw [elen] at hpush);(have HPU := Aside0.mk hpush);(clear hpush hc7 hf7 h67 h6 h6a hxa hxc hxf hca hcaa hca7 h67s hca7s)
       try clear hHeld
       go_wp2_with fail
       obtain ⟨hk1, hk2⟩ := HQ.out
       go_roundg (gk - 1)
       case measure => omega
       case rel => exact ⟨j + 1, _, dc_succ (by have h_ := HFF.out; omega), ⟨by omega⟩, HPU⟩
     ·(have hge : ¬ ((j : Int) < (l0_3.length : Int)) := by omega);(obtain ⟨hk1, hk2⟩ := HQ.out);(have hjl : j = l0_3.length := by omega);(subst hjl);(have hd : Dl 58 2 22 own w wr gw (.int .i64 a0_0) (.int .i64 a0_1) (.int .i64 a0_2) (.slice A0_3 l0_3.length c0_3) (.slice A5 l1.length c5) l1 vv gt m (dcRows l0_3 m l0_3.length) (((0 : Nat) : Int) : Int) := ⟨HP.out.below, HP.out.net, HP.out.room, HP.out.tr.tv⟩);(have HD := Aside0.mk hd)
      have hw0 : DcW a0_0 m l1.length (dcRows l0_3 m l0_3.length) := ⟨HMN.out, dcRows_len _ _ _, fun v x hx => by
       (obtain ⟨h1_, h2_⟩ := trAll_mem _ m _ v x hx);(have h3_ := HFF.out)
       exact ⟨by omega, fun r hr => by have h4_ := h2_ r hr; omega⟩⟩
      (have HW := Aside0.mk hw0);(have hrun := HRUN.out);(rw [HM.out] at hrun);(have HRN := Aside0.mk hrun);(clear hd hw0 hrun hlt hge hk1 hk2 HP HRUN HQ)
      go_wp2_with fail
      go_loopg [11] k (fun kq v11 wr => ∃ (own : Nat → Nat) (left : List Int) (value : Int) (first : Nat) (ts : List (List Int)) (out : List S36), Aside0 (Dl 58 2 22 own w wr gw (.int .i64 a0_0) (.int .i64 a0_1) (.int .i64 a0_2) (.slice A0_3 l0_3.length c0_3) (.slice A5 l1.length c5) left value gt m ts (first : Int)) ∧ Aside0 (DcW a0_0 m left.length ts) ∧ Aside0 (left.length = l1.length ∧ first ≤ left.length) ∧ Aside0 (dcRun l0_3 a0_1 a0_2 k kq left value first ts out = some ro) ∧ Aside0 (Kd.S k36 36 wr w.heap.size (fun k_ => own k_ = 3) v11 out))
      case atStart => exact ⟨own, l1, vv, 0, _, [], HD, HW, ⟨⟨rfl, Nat.zero_le _⟩⟩, HRN, ⟨Kd.S_nil _ _ _ _ _⟩⟩
      case round =>
       (clear HD HW HRN);(obtain ⟨own, left, value, first, ts, out, HP, HW, HL, HT, HV⟩ := hrel);(have ht := HT.out)
       cases gk with
       | zero => simp [dcRun] at ht
       | succ f =>
       (have HG : Aside0 (f < f + 1) := ⟨by omega⟩);(rw [dcRun] at ht);(obtain ⟨g2, hg2⟩ : ∃ g2, first + dcIxP (left.drop first) = g2 := ⟨_, rfl⟩);(rw [hg2] at ht);(have HG2 := Aside0.mk hg2);(have HLL : Aside0 (left.length ≤ 2000000) := ⟨by have h1_ := HL.out; have h2_ := HFF.out; omega⟩);(have HFL := Aside0.mk HL.out.2)
       by_cases hlt : g2 < left.length
       ·rw [if_pos hlt] at ht
        by_cases hlen : out.length ≤ 1000000
        case neg =>
         (rw [if_neg hlen] at ht);(cases ht)
        (rw [if_pos hlen] at ht);(obtain ⟨⟨it, left2, value2, ts2⟩, htake, ht⟩ := Option.bind_eq_some_iff.mp ht);(simp only at ht);(have HTAKE := Aside0.mk htake);(have HT2 := Aside0.mk ht);(have HLEN := Aside0.mk hlen);(have hdec : decide (first + dcIxP (left.drop first) < left.length) = true := by rw [hg2]; exact decide_eq_true hlt);(have HDEC := Aside0.mk hdec);(have HGL : Aside0 (g2 < l0_3.length) := ⟨by have h1_ := HL.out; have h2_ := HFF.out; omega⟩)
        have hfl : dcFit a0_0 a0_1 a0_2 l0_3 left = true := by
         (have h_ := HFIT.out);(unfold dcFit at h_ ⊢);(rw [HL.out.1]);(exact h_)
        (have HFT := Aside0.mk hfl);(clear ht htake hlen hdec hlt hfl hg2 HT)
        go_wp2_with (first
         | (go_at_call 20; refine (dcMore_calls first HFL.out HLL.out HP.out).mono ?_; rintro e w5 ⟨he, hp, hs, hz⟩; rw [HDEC.out] at he; rw [HG2.out] at hp; subst he; have HP5 := Aside0.mk hp; have HV5 := Aside0.mk (dcRow_stay HV.out hs); clear hp hs hz HP HV)
         | (go_at_call 21; refine (dcTake_calls k g2 HGL.out HR.out HC.out HFT.out HW.out HTAKE.out HP5.out).mono ?_; rintro e w6 ⟨At, rfl, own3, hp, hpw, hl6, hs, hz, htold⟩; have HP6 := Aside0.mk hp; have HW6 := Aside0.mk hpw; have HL6 := Aside0.mk hl6; have HV6 := Aside0.mk (Kd.S_mono (ok' := fun k_ => own3 k_ = 3 ∧ k_ < w5.heap.size) (Kd.S_move (Kd.S_bound HV5.out) (fun k_ hk_ => hs.heap k_ hk_.2.2.1 (by rw [hk_.1]; unfold DlT; decide))) (fun k_ hk_ => ⟨(hs.own k_ hk_.2.2.1).trans hk_.1, hk_.2.2.1⟩)); have HTL := Aside0.mk htold; clear hp hpw hs hz htold hl6 HP5 HV5 HW)
         | ((with_reducible refine gate_builtin (b := .append) (xs := #[.tmp 60, .tmp 63]) rfl ?_); at_builtin; refine Kd.S_append k36 (w0 := w) w.heap.size rfl (.tmp 60) (.tmp 63) 31 36 (.agg #[.int .u8 0, .slice none 0 0, .int .i64 0]) 40 rfl Try.underlying31 info36 rfl (by decide) (by omega) _ out it [.int .u8 it.f0, At, .int .i64 it.f2] (fun k_ => own3 k_ = 3 ∨ w6.heap.size ≤ k_) (fun k_ => own3 k_ = 3 ∧ w5.heap.size ≤ k_) rfl (by first | (go_simp; done) | (go_simp; rfl)) ?aP ?aK ?aF ?aO ?aB ?aS ?aL ?_; (case aP => exact k36_mkM _ _ _ it HTL.out); (case aK => exact fun k_ hk_ => ⟨.inl hk_.1, fun e_ => by have h_ := (Kd.S_R HV6.out).1 k_ e_.symm; omega⟩); (case aF => exact (fun _ h_ => .inr h_)); (case aO => exact Kd.S_mono HV6.out (fun k_ hk_ => ⟨.inl hk_.1, fun h_ => by omega⟩)); (case aB => exact HP6.out.below); (case aS => exact below_size HP6.out.below); (case aL => have h1_ := HLEN.out; omega); intro u1 w7 ho hb7 hg hat; have hst : Stay own3 (more own3 w6 3) (fun t_ => t_ = 3) w6 w7 := Stay.grown hg (fun k_ hk_ => ((Kd.S_R HV6.out).1 k_ hk_).1); have HP7 := Aside0.mk (HP6.out.stay hst hb7 (by decide) (by decide) (by decide) (fun j_ => by omega)); have HV7 : Aside0 (Kd.S k36 36 w7 w.heap.size (fun k_ => more own3 w6 3 k_ = 3) u1 (out ++ [it])) := ⟨Kd.S_mono ho (fun k_ hk_ => dcMore3 hk_)⟩; clear ho hb7 hg hat hst HP6 HV6 HTL))
        go_roundg f
        case measure => have h_ := HG.out; omega
        case rel => exact ⟨_, left2, value2, g2, ts2, _, HP7, HW6, ⟨by have h1_ := HL6.out; have h2_ := HL.out; have h3_ := HGL.out; have h4_ := HFF.out; omega⟩, HT2, HV7⟩
       ·(rw [if_neg hlt] at ht);(simp only [Option.some.injEq] at ht);(have HO := Aside0.mk ht);(have hdec : decide (first + dcIxP (left.drop first) < left.length) = false := by rw [hg2]; exact decide_eq_false hlt);(have HDEC := Aside0.mk hdec);(clear ht hdec hlt hg2 HT)
        go_wp2_with (go_at_call 20; refine (dcMore_calls first HFL.out HLL.out HP.out).mono ?_; rintro e w5 ⟨he, hp, hs, hz⟩; rw [HDEC.out] at he; subst he; have HB5 := Aside0.mk hp.below; have HV5 := Aside0.mk (dcRow_stay HV.out hs); clear hp hs hz HP HV)
        (have HV9 := HV5.out);(rw [HO.out] at HV9);(have HV10 := Aside0.mk HV9);(clear HV9)
        go_ret2
        exact ⟨_, rfl, Kd.S_mono HV10.out (fun _ _ => trivial), HB5.out⟩
  ·rw [if_neg e1] at h
   exact absurd h (by simp)
 ·rw [if_neg e0] at h
  simp only [Option.some.injEq, Prod.mk.injEq] at h
  obtain ⟨rfl, rfl⟩ := h
  have h0b : (er == 0) = false := beq_eq_false_iff_ne.mpr e0
  have h0c : (er != 0) = true := bne_iff_ne.mpr e0
  clear e0
  go_enter Try.func10, Try.ntmps10
  go_wp2_with (first
    | ((with_reducible refine gate_dst (N := 2) rfl ?_); refine box_event ?hg (N := 2) ?hd (cs := #[.int .i64 a0_0, .int .i64 a0_1, .int .i64 a0_2, .slice A0_3 l0_3.length c0_3]) (t := 26) ?hr ?_; (case hd => rfl); (case hg => rfl); (case hr => first | (go_simp; done) | (go_simp; rfl)); intro gn hg w1 hbox hb; have HB1 := Aside0.mk (below_step HB.out hb); have BN := Aside0.mk hbox; clear HB hb hbox hg; have hcz0 : w1.cell? ⟨gn, 0, none⟩ = some (.int .i64 a0_0) := (blk_cell BN.out 0).trans rfl; have hcz1 : w1.cell? ⟨gn, 1, none⟩ = some (.int .i64 a0_1) := (blk_cell BN.out 1).trans rfl; have hcz2 : w1.cell? ⟨gn, 2, none⟩ = some (.int .i64 a0_2) := (blk_cell BN.out 2).trans rfl; have hcz3 : w1.cell? ⟨gn, 3, none⟩ = some (.slice A0_3 l0_3.length c0_3) := (blk_cell BN.out 3).trans rfl)
    | (go_at_call 14; refine (flow_Value.calls k a0_0 a0_1 a0_2 A0_3 c0_3 l0_3 A1 c1 l1 vv er _ ?s1 HC.out ?s2 HC1.out HVA.out).mono ?_; (case s1 => exact Kd.C_below HR.out HB1.out); (case s2 => exact Kd.C_below HF.out HB1.out); rintro e w2 ⟨rfl, hb⟩; have HB2 := Aside0.mk (below_step HB1.out hb); clear hb HB1 BN hcz0 hcz1 hcz2 hcz3))
  go_ret2
  exact ⟨_, rfl, Kd.S_nil _ _ _ _ _, HB2.out⟩
end Go.Proofs.Ytnjdjnoncoeffaa.PDecompTwice
