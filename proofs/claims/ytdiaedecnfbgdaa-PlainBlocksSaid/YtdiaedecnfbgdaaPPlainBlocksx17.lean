/- For the law PlainBlocks, for every input: printed by a program (wip/myprint), contracts by hand where it says MANUAL. -/
-- slim5
-- slim
import Derived.Test.YtdiaedecnfbgdaaPPlainBlocksx0
import Derived.Test.YtdiaedecnfbgdaaPPlainBlocksx10
import Derived.Test.YtdiaedecnfbgdaaPPlainBlocksx13
namespace Go.Proofs.Ytdiaedecnfbgdaa.PPlainBlocks
open Go.RowKit Go.Proofs.YtdiaedecnfbgdaaW.PrintWords Go.Proofs.YtdiaedecnfbgdaaW.PrintLast Go.Proofs.YtdiaedecnfbgdaaW.PrintMore
attribute [local go_sem] max2_int min2_int max_two min_two max_three min_three max_four min_four
set_option linter.unusedVariables false
set_option linter.unusedSimpArgs false
/-! ### plain_walker_push_1: function 59 -/
-- MANUAL: this contract was written by hand.
open Go.Proofs.YtdiaedecnfbgdaaW.Mine
set_option maxHeartbeats 8000000 in
set_option maxRecDepth 100000 in
theorem plLess_calls {own : Nat → Nat} {w0 w : World} {gw gb : Nat} {c0 c1 c2 c3 vr : Value} {room : List Int} {least : Int} {gt m : Nat} {ts : List (List Int)} {vw : Value} {walk : List Int} (r' : Nat) (hr : r' < room.length)
  (hb : w.cell? ⟨gb, 0, none⟩ = some (.pointer (some ⟨gw, 0, none⟩))) (h : Pl 98 2 3 22 own w0 w gw c0 c1 c2 c3 vr room least gt m ts vw walk) :
  Calls Try.prog 59 #[.int .i64 (r' : Int), .pointer (some ⟨gb, 0, none⟩)] w fun e w' => e = .returned (.bool (decide (rd room (r' : Int) < least))) ∧ Below w.heap.size w w' := by
 (have hu98 := Try.underlying98); (obtain ⟨Ar, cr, er⟩ := Kd.R_slice h.room); subst er; (obtain ⟨g8, hg8, hrr⟩ := h.room.read hr); subst hg8; (have erd : rd room (r' : Int) = room[r'] := by simp [rd, hr]); (rw [erd]); (obtain ⟨y, hy⟩ : ∃ y, room[r'] = y := ⟨_, rfl⟩); (rw [hy]); (rw [hy] at hrr); (have h4 := h.g4); (have h5 := h.g5); (have hrm2 : (r' : Int) < (room.length : Int) := by omega); (have hr0 : (0 : Int) ≤ (r' : Int) := by omega); (obtain ⟨q, hq⟩ : ∃ q, decide (y < least) = q := ⟨_, rfl⟩); (have HQ := Aside0.mk hq); (rw [hq]); clear h hr erd hy; (go_enter Try.func59, Try.ntmps59); (go_wp2_with fail); go_region; (all_goals (go_wp2_with fail)); (all_goals go_ret); (all_goals exact ⟨by first | rfl | (rw [← HQ.out]; rfl), below_drew (Below.refl _ _)⟩)
/-! ### slices_IndexFunc_int_int: function 58 -/
-- MANUAL: this contract was written by hand.
open Go.Proofs.YtdiaedecnfbgdaaW.Mine
/-- The place of the first track without the room. -/
def plIx (room : List Int) (least : Int) : List Int → Int → Int
 | [], _ => -1
 | r :: rs, i => if rd room r < least then i else plIx room least rs (i + 1)
set_option maxHeartbeats 8000000 in
set_option maxRecDepth 100000 in
theorem plIx_calls {own : Nat → Nat} {w0 w : World} {gw gb : Nat} {c0 c1 c2 c3 vr : Value} {room : List Int} {least : Int} {gt m : Nat} {ts : List (List Int)} {Aw : Option Addr} {cw : Nat} {walk : List Int}
  (hw : ∀ r ∈ walk, 0 ≤ r ∧ r < (room.length : Int)) (hwl : walk.length ≤ 2000000) (hbs : gb < w.heap.size)
  (hb : w.cell? ⟨gb, 0, none⟩ = some (.pointer (some ⟨gw, 0, none⟩))) (h : Pl 98 2 3 22 own w0 w gw c0 c1 c2 c3 vr room least gt m ts (.slice Aw walk.length cw) walk) :
  Calls Try.prog 58 #[.slice Aw walk.length cw, .func (.func 59) #[] #[.pointer (some ⟨gb, 0, none⟩)]] w fun e w' => e = .returned (.int .i64 (plIx room least walk 0)) ∧ Below w.heap.size w w' := by
 (have HP := Aside0.mk h); (have HW := Aside0.mk hw); (have HWL := Aside0.mk hwl); (have HBP := Aside0.mk hb); (have HB := Aside0.mk (Below.refl w.heap.size w)); (obtain ⟨R, hR⟩ : ∃ R, plIx room least walk 0 = R := ⟨_, rfl⟩); (have H := Aside0.mk hR); (rw [hR]); clear h hw hwl hb hR; (go_enter Try.func58, Try.ntmps58); (go_wp2_with fail); (go_loopg [8] (walk.length + 1) (fun kq v8 wr => ∃ (j : Nat), v8 = .int .i64 j ∧ Aside0 (j + kq = walk.length + 1 ∧ 0 < kq) ∧ Aside0 (plIx room least (walk.drop j) (j : Int) = R) ∧ Aside0 (Below w.heap.size w wr)))
 case atStart => exact ⟨0, rfl, ⟨by omega⟩, ⟨by rw [List.drop_zero]; exact H.out⟩, HB⟩
 case round =>
  clear HB H; (obtain ⟨j, rfl, HK, HA, HB⟩ := hrel); (by_cases hlt : j < walk.length)
  ·have hlt2 : (j : Int) < (walk.length : Int) := by omega
   ((have hj0 : (0 : Int) ≤ (j : Int) := by omega);(have HPr := Aside0.mk (HP.out.move HB.out));(obtain ⟨g9, hg9, hrd⟩ := HPr.out.walk.read hlt);(subst hg9);(have hrn := HW.out walk[j] (List.getElem_mem hlt));(have hA := HA.out);(rw [List.drop_eq_getElem_cons hlt] at hA);(obtain ⟨r, hr⟩ : ∃ r : Nat, walk[j] = (r : Int) := ⟨(walk[j]).toNat, by omega⟩);(rw [hr] at hrn hrd hA);(have HRN : Aside0 (r < room.length) := ⟨by omega⟩);(have HCB := Aside0.mk (pw_cell_below HB.out HBP.out));(simp only [plIx] at hA);(clear hrn hr hlt)); (by_cases c : rd room (r : Int) < least); (·((rw [if_pos c] at hA);(subst hA);(have hd : decide (rd room (r : Int) < least) = true := decide_eq_true c);(have HD := Aside0.mk hd);(clear c hd)); (go_wp2_with (go_at_call 59; refine (plLess_calls r HRN.out HCB.out HPr.out).mono ?_; rw [HD.out]; rintro e w5 ⟨rfl, hb⟩; have HB5 := Aside0.mk (below_step HB.out hb); clear hb)); (go_ret); (exact ⟨rfl, HB5.out⟩))
   ·(rw [if_neg c] at hA);(have hd : decide (rd room (r : Int) < least) = false := decide_eq_false c);(have HD := Aside0.mk hd);(have HA2 := Aside0.mk hA);(clear c hd hA)
    (go_wp2_with (go_at_call 59; refine (plLess_calls r HRN.out HCB.out HPr.out).mono ?_; rw [HD.out]; rintro e w5 ⟨rfl, hb⟩; have HB5 := Aside0.mk (below_step HB.out hb); clear hb)); (obtain ⟨hk1, hk2⟩ := HK.out); (go_roundg (gk - 1))
    case measure => omega
    case rel => exact ⟨j + 1, lv_succ (by have h_ := HWL.out; omega), ⟨by omega⟩, ⟨HA2.out⟩, HB5⟩
  (·(have hge : ¬ ((j : Int) < (walk.length : Int)) := by omega); ((have hA := HA.out);(rw [List.drop_of_length_le (by omega)] at hA);(have hR : R = -1 := hA.symm);(subst hR);(clear hA)); (go_wp2_with fail); (go_ret); (exact ⟨rfl, HB.out⟩))
/-! ### slices_Clone_int_int: function 57 -/
-- MANUAL: this contract was written by hand.
def cloneI.f (l0 : List Int) : Option (List Int) := if l0.length < 17592186044416 then some l0 else none
set_option maxHeartbeats 8000000 in
set_option maxRecDepth 100000 in
theorem cloneI.calls (A0 : Option Addr) (c0 : Nat) (l0 : List Int) (r : List Int) (w : World) (hr0 : Kd.C (Kd.int .i64) w A0 l0.length l0) (hc0 : l0.length ≤ c0) (h : cloneI.f l0 = some r) :
  Calls Try.prog 57 #[.slice A0 l0.length c0] w fun e w' => ∃ v0_ : Value, e = .returned (v0_) ∧ Kd.R (Kd.int .i64) 3 w' w.heap.size (fun _ => True) v0_ r ∧ Below w.heap.size w w' := by
 (have hnil := fun (W : World) (a : Option Addr) (n c : Nat) => Lib.run_eql_slice_nil (P := Try.prog) W 22 3 a n c 0 0 Try.underlying22); (unfold cloneI.f at h); (by_cases hl : l0.length < 17592186044416)
 ·rw [if_pos hl] at h
  (obtain rfl := Option.some.inj h); clear h; (have HR := Aside0.mk hr0); clear hr0
  cases A0 with
  | none =>
   have hl0 : l0 = [] := by
    cases l0 with
    | nil => rfl
    | cons a t =>
     (obtain ⟨ad, e, _⟩ := Kd.at_int HR.out 0 (by omega) (by simp <;> omega));(cases e)
   subst hl0; (go_enter Try.func57, Try.ntmps57); (go_wp2); (go_ret)
   exact ⟨_, rfl, Kd.R_nil _ _ _ _ _, Below.refl _ _⟩
  | some a =>
   ((have HL := Aside0.mk hl);(clear hl)); (go_enter Try.func57, Try.ntmps57)
   go_wp2_with (first
    | ((with_reducible refine gate_dst (N := 5) rfl ?_); refine Kd.R_lit (Kd.int .i64) _ 3 ?hg (N := 5) ?hd (xs := ([] : List Int)) (inner := []) (ok := fun _ => True) (okp := fun _ => True) ?hr ?hp (fun _ hk => hk) trivial (Below.refl _ _) (Nat.le_refl _) (by simp) ?_; (case hd => rfl); (case hg => rfl); (case hr => first | (go_simp; done) | (go_simp; rfl)); (case hp => exact (Reps.none _ _)); intro v5 w5 ho5 hb5 hg5 hn5; have HO := Aside0.mk ho5; have HB := Aside0.mk hb5; clear ho5 hb5 hg5 hn5)
    | ((with_reducible refine gate_builtin (b := .append) (xs := #[.tmp 5, .tmp 6]) rfl ?_); at_builtin; refine Kd.R_append_rows (Kd.int .i64) (Rr := (Kd.int .i64).K w5) (w0 := w) w.heap.size rfl (.tmp 5) (.tmp 6) 22 3 (.int .i64 0) 8 rfl Try.underlying22 info3 rfl (by decide) (by omega) v5 [] l0 _ _ _ (fun _ => True) (fun _ => False) rfl rfl ?aO ?aR (fun x cs h => h) (fun _ h => h.elim) (fun _ _ => trivial) ?aB ?aS ?aL ?_; (case aR => exact Kd.C_below HR.out HB.out); (case aB => exact HB.out); (case aO => exact HO.out); (case aS => exact below_size HB.out); (case aL => have := HL.out; simp; omega); intro v7 w7 ho hb hg hat))
   (go_ret); (exact ⟨_, rfl, ho, hb⟩)
 (·(rw [if_neg hl] at h); (exact absurd h (by simp)))
/-! ### plain_walker_push: function 47 -/
-- MANUAL: this contract was written by hand.
open Go.Proofs.YtdiaedecnfbgdaaW.Mine
/-- The least room along a walk. -/
def plMost (room : List Int) : List Int → Int → Int
 | [], a => a
 | r :: rs, a => plMost room rs (if rd room r < a then rd room r else a)
/-- What is led along a walk leaves less room there, and more back. -/
def plPour (most : Int) : List Int → List Int → List Int
 | [], room => room
 | r :: rs, room => plPour most rs ((room.set r.toNat (wrap64 (rd room r - most))).set (Go.bits .xor .i64 r 1).toNat (wrap64 (rd (room.set r.toNat (wrap64 (rd room r - most))) (Go.bits .xor .i64 r 1) + most)))
def plPush (room : List Int) (least : Int) (walk : List Int) : Option (Int × List Int × List Int) :=
 if walk.length = 0 then none
 else if walk.all (fun r => decide (0 ≤ r ∧ r < (room.length : Int) ∧ 0 ≤ Go.bits .xor .i64 r 1 ∧ Go.bits .xor .i64 r 1 < (room.length : Int))) = true then
  (if 0 ≤ plIx (plPour (plMost room walk (rd room (rd walk 0))) walk room) least walk 0 then
   some (plMost room walk (rd room (rd walk 0)), plPour (plMost room walk (rd room (rd walk 0))) walk room, walk.take (plIx (plPour (plMost room walk (rd room (rd walk 0))) walk room) least walk 0).toNat)
  else none)
 else none
theorem plPour_len (most : Int) : ∀ (walk room : List Int), (plPour most walk room).length = room.length
 | [], _ => rfl
 | r :: rs, room => by rw [plPour, plPour_len most rs, List.length_set, List.length_set]
/-- While an amount is led. -/
structure Pu (tw te ti tl tp tk : Nat) (own own1 : Nat → Nat) (w0 w W : World) (gw : Nat) (c0 c1 c2 c3 : Value) (vr : Value) (room : List Int) (least : Int) (gt m : Nat) (ts : List (List Int)) (vw : Value) (walk : List Int) (gb gr : Nat) : Prop where
 pl : Pl tw te ti tl own1 w0 W gw c0 c1 c2 c3 vr room least gt m ts vw walk
 b1 : W.heap[gb]? = some (.cells #[.pointer (some ⟨gw, 0, none⟩)] tp (0, 0))
 b2 : W.heap[gr]? = some (.cells #[.slice none 0 0, .int .i64 0] tk (0, 0))
 n1 : w.heap.size ≤ gb
 n2 : w.heap.size ≤ gr
 o1 : own1 gb = 3
 o2 : own1 gr = 3
 st : Stay own own1 PlT w W ∧ w.heap.size ≤ W.heap.size
section
variable {tw te ti tl tp tk : Nat} {own own1 : Nat → Nat} {w0 w W W1 : World} {gw : Nat} {c0 c1 c2 c3 : Value} {vr : Value} {room : List Int} {least : Int} {gt m : Nat} {ts : List (List Int)} {vw : Value} {walk : List Int} {gb gr : Nat}
theorem plOver (h : Pl tw te ti tl own w0 W gw c0 c1 c2 c3 vr room least gt m ts vw walk) (hb : Below W.heap.size W W1) : Pl tw te ti tl (more own W 3) w0 W1 gw c0 c1 c2 c3 vr room least gt m ts vw walk ∧ Stay own (more own W 3) PlT W W1 :=
 have s : Stay own (more own W 3) (fun _ => False) W W1 := ⟨fun k hk _ => hb.block k hk, fun k hk => more_old hk⟩
 ⟨⟨below_step h.below hb, h.box.stay s id, h.room.stay s id, h.tv.stay s id (fun _ => id), h.walk.stay s id⟩, s.weak (fun _ e => e.elim)⟩
theorem more_new {k : Nat} (h : W.heap.size ≤ k) : more own W 3 k = 3 := if_neg (by omega)
theorem Pu.move (h : Pu tw te ti tl tp tk own own1 w0 w W gw c0 c1 c2 c3 vr room least gt m ts vw walk gb gr) (hb : Below W.heap.size W W1) : Pu tw te ti tl tp tk own own1 w0 w W1 gw c0 c1 c2 c3 vr room least gt m ts vw walk gb gr :=
 ⟨h.pl.move hb, blk_below h.b1 hb, blk_below h.b2 hb, h.n1, h.n2, h.o1, h.o2, Stay.go h.st (Stay.below hb) (below_size hb)⟩
theorem Pu.put {g n c : Nat} (h : Pu tw te ti tl tp tk own own1 w0 w W gw c0 c1 c2 c3 (.slice (some ⟨g, 0, none⟩) n c) room least gt m ts vw walk gb gr) (i x : Int) : Pu tw te ti tl tp tk own own1 w0 w (W.setCell ⟨g, i.toNat, none⟩ (.int .i64 x)) gw c0 c1 c2 c3 (.slice (some ⟨g, 0, none⟩) n c) (room.set i.toNat x) least gt m ts vw walk gb gr :=
 have h8 : own1 g = 8 := h.pl.room.block
 ⟨(h.pl.put i x).1, blk_far h.b1 (fun e => by have h1 := h.o1; have e2 : gb = g := e; rw [e2] at h1; omega) _, blk_far h.b2 (fun e => by have h1 := h.o2; have e2 : gr = g := e; rw [e2] at h1; omega) _, h.n1, h.n2, h.o1, h.o2, Stay.go h.st (h.pl.put i x).2 (set_size _ _)⟩
end
theorem plIx_in (room : List Int) (least : Int) : ∀ (walk : List Int) (i : Int), plIx room least walk i = -1 ∨ i ≤ plIx room least walk i ∧ plIx room least walk i < i + (walk.length : Int)
 | [], _ => .inl rfl
 | r :: rs, i => by
  (have ih := plIx_in room least rs (i + 1)); (simp only [plIx, List.length_cons])
  split
  ·right; omega
  ·rcases ih with h | h
   ·exact .inl h
   ·right; omega
theorem plFar {tw te ti tl : Nat} {own : Nat → Nat} {w0 W : World} {gw : Nat} {c0 c1 c2 c3 : Value} {vr : Value} {room : List Int} {least : Int} {gt m : Nat} {ts : List (List Int)} {vw : Value} {walk : List Int} {g : Nat} (h : Pl tw te ti tl own w0 W gw c0 c1 c2 c3 vr room least gt m ts vw walk) (hg : own g = 3) (hb : w0.heap.size ≤ g) (i : Nat) (u : Value) : Pl tw te ti tl own w0 (W.setCell ⟨g, i, none⟩ u) gw c0 c1 c2 c3 vr room least gt m ts vw walk :=
 have s : Stay own own (fun t => t = 3) W (W.setCell ⟨g, i, none⟩ u) := Stay.set hg
 ⟨below_set h.below hb, h.box.stay s (by decide), h.room.stay s (by decide), h.tv.stay s (by decide) (fun j => by omega), h.walk.stay s (by decide)⟩
theorem staySet {own own' : Nat → Nat} {T : Nat → Prop} {w W : World} {g : Nat} (h : Stay own own' T w W ∧ w.heap.size ≤ W.heap.size) (hg : w.heap.size ≤ g) (i : Nat) (u : Value) : Stay own own' T w (W.setCell ⟨g, i, none⟩ u) ∧ w.heap.size ≤ (W.setCell ⟨g, i, none⟩ u).heap.size :=
 ⟨⟨fun k hk hT => (Below.heap_setCell W ⟨g, i, none⟩ u k (fun e => by have e2 : k = g := e; omega)).trans (h.1.heap k hk hT), h.1.own⟩, Nat.le_trans h.2 (set_size _ _)⟩
theorem plTold {own1 : Nat → Nat} {e t base g i : Nat} {W : World} {v u : Value} {xs : List Int} {cells : Array Value} (h : Rw own1 3 e W base v xs) (hb : W.heap[g]? = some (.cells cells t (0, 0))) (ht : e ≠ t) : Rw own1 3 e (W.setCell ⟨g, i, none⟩ u) base v xs :=
 Kd.R_mono (Kd.R_far (p := ⟨g, i, none⟩) (Kd.R_types h hb (by intro q hq; rcases List.mem_cons.1 hq with rfl | hq; exact ht; cases hq)) (fun k hk => hk.2) u) (fun k hk => hk.1)
set_option maxHeartbeats 8000000 in
set_option maxRecDepth 100000 in
theorem plPush_calls {own : Nat → Nat} {w0 w : World} {gw : Nat} {n s t : Int} {A3 : Option Addr} {c3 : Nat} {l : List (S30)} {vr : Value} {room : List Int} {least : Int} {gt m : Nat} {ts : List (List Int)} {vw : Value} {walk : List Int} {most : Int} {room2 walk2 : List Int}
  (hw : PlW n m room.length ts walk) (hn : plPush room least walk = some (most, room2, walk2))
  (h : Pl 98 2 3 22 own w0 w gw (.int .i64 n) (.int .i64 s) (.int .i64 t) (.slice A3 l.length c3) vr room least gt m ts vw walk) :
  Calls Try.prog 47 #[.pointer (some ⟨gw, 0, none⟩)] w fun e w' => ∃ (At : Value), e = .returned (.agg #[At, .int .i64 most]) ∧ ∃ (own' : Nat → Nat) (vw2 : Value), Pl 98 2 3 22 own' w0 w' gw (.int .i64 n) (.int .i64 s) (.int .i64 t) (.slice A3 l.length c3) vr room2 least gt m ts vw2 walk2 ∧ PlW n m room2.length ts walk2 ∧ Stay own own' PlT w w' ∧ w.heap.size ≤ w'.heap.size ∧ (Kd.int .i64).R 3 w' w.heap.size (fun k => own' k = 3) At walk := by
 (have hu98 := Try.underlying98); (have hu61 := Try.underlying61); (have hmf : ∀ (fn : Fn) (first cap : Array Value) (w : World), (Instr.makeFunc fn first cap).run Try.prog w = .ok (.func fn first cap) w := fun _ _ _ _ => rfl); (unfold plPush at hn); (by_cases hz : walk.length = 0); (·(rw [if_pos hz] at hn); (exact absurd hn (by simp))); (rw [if_neg hz] at hn); (by_cases hall : walk.all (fun r => decide (0 ≤ r ∧ r < (room.length : Int) ∧ 0 ≤ Go.bits .xor .i64 r 1 ∧ Go.bits .xor .i64 r 1 < (room.length : Int))) = true)
 ·rw [if_pos hall] at hn
  by_cases hix : 0 ≤ plIx (plPour (plMost room walk (rd room (rd walk 0))) walk room) least walk 0
  ·rw [if_pos hix] at hn
   (simp only [Option.some.injEq, Prod.mk.injEq] at hn);(obtain ⟨hmost, hroom2, hwalk2⟩ := hn);(simp only [List.all_eq_true, decide_eq_true_eq] at hall);(have HA := Aside0.mk hall);(have HM := Aside0.mk hmost);(rw [hmost] at hroom2 hwalk2 hix);(have HR2 := Aside0.mk hroom2);(rw [hroom2] at hwalk2 hix);(have HW2 := Aside0.mk hwalk2);(have HIX := Aside0.mk hix);(have HW00 := Aside0.mk (below_size h.below));(have HP := Aside0.mk h);(have HW := Aside0.mk hw);(have hw0 : 0 < walk.length := by omega);(have HZ := Aside0.mk hw0);(clear hall hmost hroom2 hwalk2 hix hz hw);(obtain ⟨Ar, cr, er⟩ := Kd.R_slice h.room);(subst er);(obtain ⟨Aw, cw, ew⟩ := Kd.R_slice h.walk);(subst ew);(obtain ⟨g9, hg9, hrd⟩ := Rw.read h.walk hw0);(subst hg9);(have hr0n := HA.out walk[0] (List.getElem_mem hw0));(obtain ⟨r0, hr0⟩ : ∃ r0 : Nat, walk[0] = (r0 : Int) := ⟨(walk[0]).toNat, by omega⟩);(have hr0m : r0 < room.length := by omega);(obtain ⟨g8, hg8, hrr⟩ := h.room.read hr0m);(subst hg8)
   have e0 : rd room (rd walk 0) = room[r0] := by
    have e1 : rd walk 0 = walk[0] := by
     (have : ((0 : Nat) : Int) = 0 := rfl); (simp [rd, hw0])
    (rw [e1, hr0]); (simp [rd, hr0m])
   ((have hm0 := HM.out);(rw [e0] at hm0);(obtain ⟨y0, hy0⟩ : ∃ y0, room[r0] = y0 := ⟨_, rfl⟩);(rw [hy0] at hm0);(have HM0 := Aside0.mk hm0);(have HY0 : Aside0 (rd room (r0 : Int) = y0) := ⟨by rw [← hy0]; simp [rd, hr0m]⟩);(have HR0 := Aside0.mk hr0);(have HR0M := Aside0.mk hr0m);(clear h hr0n hr0 e0 hm0 hy0 hrd hrr hr0m)); (go_enter Try.func47, Try.ntmps47)
   go_wp2_with (first
    | ((with_reducible refine gate_dst (N := 1) rfl ?_); refine box_event ?hg (N := 1) ?hd (cs := #[.pointer (some ⟨gw, 0, none⟩)]) (t := 92) ?hr ?_; (case hd => rfl); (case hg => rfl); (case hr => first | (go_simp; done) | (go_simp; rfl)); intro gb hgb w1 hbox hb; have BN1 := Aside0.mk hbox; have GB : Aside0 (gb = w.heap.size) := ⟨hgb⟩; have HB1 := Aside0.mk hb; clear hbox hgb hb)
    | ((with_reducible refine gate_dst (N := 2) rfl ?_); refine box_event ?hg (N := 2) ?hd (cs := #[.slice none 0 0, .int .i64 0]) (t := 61) ?hr ?_; (case hd => rfl); (case hg => rfl); (case hr => first | (go_simp; done) | (go_simp; rfl)); intro gr hgr w2 hbox hb; have BN2 := Aside0.mk hbox; have GR : Aside0 (gr = w1.heap.size) := ⟨hgr⟩; have HB2 := Aside0.mk hb; clear hbox hgr hb))
   (have hbb : Below w.heap.size w w2 := below_step HB1.out HB2.out);(have hov := plOver HP.out hbb)
   have hu0 : Pu 98 2 3 22 92 61 own (more own w 3) w0 w w2 gw (.int .i64 n) (.int .i64 s) (.int .i64 t) (.slice A3 l.length c3) (.slice (some ⟨g8, 0, none⟩) room.length cr) room least gt m ts (.slice (some ⟨g9, 0, none⟩) walk.length cw) walk gb gr :=
    ⟨hov.1, blk_below BN1.out HB2.out, BN2.out, by rw [GB.out]; exact Nat.le_refl _, by rw [GR.out]; exact below_size HB1.out, more_new (by rw [GB.out]; exact Nat.le_refl _), more_new (by rw [GR.out]; exact below_size HB1.out), hov.2, below_size hbb⟩
   ((have HU := Aside0.mk hu0);(clear hbb hov hu0 BN1 BN2 HB1 HB2 GB GR HP);(have hcb : w2.cell? ⟨gb, 0, none⟩ = some (.pointer (some ⟨gw, 0, none⟩)) := (blk_cell HU.out.b1 0).trans rfl);(have h4 := HU.out.pl.g4);(have h7 := HU.out.pl.g7);(obtain ⟨_, e9, hrd⟩ := HU.out.pl.walk.read HZ.out);(cases e9);(obtain ⟨_, e8, hrr⟩ := HU.out.pl.room.read HR0M.out);(cases e8);(rw [HR0.out] at hrd);(have erd0 : rd room (r0 : Int) = room[r0]'HR0M.out := by have h_ := HR0M.out; simp [rd, h_]);(rw [← erd0, HY0.out] at hrr);(clear erd0);(have hz0 : (0 : Int) < (walk.length : Int) := by have h_ := HZ.out; omega);(have hr1 : (r0 : Int) < (room.length : Int) := by have h_ := HR0M.out; omega);(have hr2 : (0 : Int) ≤ (r0 : Int) := by omega);(simp only [Act.put, sA_, sZ_, sS_])); go_region; ((have hu3 := HU.out.move (W1 := w2.drew) (below_drew (Below.refl _ _)));(have HU3 := Aside0.mk hu3);(clear hu3 HU hcb h4 h7 hrd hrr hr1 hr2);(generalize w2.drew = w3 at *);(have hcb : w3.cell? ⟨gb, 0, none⟩ = some (.pointer (some ⟨gw, 0, none⟩)) := (blk_cell HU3.out.b1 0).trans rfl);(have h7 := HU3.out.pl.g7)); (go_wp2_with fail); clear hcb h7 hz0; (go_loopg [3, 27] (walk.length + 1) (fun kq v3 v27 wr => ∃ (j : Nat) (a : Int), v3 = .int .i64 a ∧ v27 = .int .i64 j ∧ Aside0 (j + kq = walk.length + 1 ∧ 0 < kq) ∧ Aside0 (plMost room (walk.drop j) a = most) ∧ Aside0 (Pu 98 2 3 22 92 61 own (more own w 3) w0 w wr gw (.int .i64 n) (.int .i64 s) (.int .i64 t) (.slice A3 l.length c3) (.slice (some ⟨g8, 0, none⟩) room.length cr) room least gt m ts (.slice (some ⟨g9, 0, none⟩) walk.length cw) walk gb gr)))
   case atStart => exact ⟨0, y0, rfl, rfl, ⟨by omega⟩, ⟨by rw [List.drop_zero]; exact HM0.out⟩, HU3⟩
   case round =>
    ((clear HU3);(obtain ⟨j, a, rfl, rfl, HK, HMM, HU⟩ := hrel)); (by_cases hlt : j < walk.length)
    ·(have hlt2 : (j : Int) < (walk.length : Int) := by omega);(have hj0 : (0 : Int) ≤ (j : Int) := by omega);(obtain ⟨_, e9, hrd⟩ := HU.out.pl.walk.read hlt);(cases e9);(have hrn := HA.out walk[j] (List.getElem_mem hlt));(have hmm := HMM.out);(rw [List.drop_eq_getElem_cons hlt] at hmm);(obtain ⟨r, hr⟩ : ∃ r : Nat, walk[j] = (r : Int) := ⟨(walk[j]).toNat, by omega⟩);(rw [hr] at hrn hrd hmm);(have hrm : r < room.length := by omega);(have hrm2 : (r : Int) < (room.length : Int) := by omega);(have hr0' : (0 : Int) ≤ (r : Int) := by omega);(obtain ⟨_, e8, hrr⟩ := HU.out.pl.room.read hrm);(cases e8);(have erd : rd room (r : Int) = room[r] := by simp [rd, hrm]);(obtain ⟨y, hy⟩ : ∃ y, room[r] = y := ⟨_, rfl⟩);(simp only [plMost] at hmm);(rw [erd, hy] at hmm);(rw [hy] at hrr);(have HMM2 := Aside0.mk hmm);(have hcb : wr.cell? ⟨gb, 0, none⟩ = some (.pointer (some ⟨gw, 0, none⟩)) := (blk_cell HU.out.b1 0).trans rfl);(have h4 := HU.out.pl.g4);(clear hrn hmm hr erd hy hrm hlt HMM)
     by_cases c : y < a
     ·(have HM3 : Aside0 (plMost room (walk.drop (j + 1)) y = most) := ⟨by have h_ := HMM2.out; rwa [if_pos c] at h_⟩);(clear HMM2)
      (go_wp2_with fail); (obtain ⟨hk1, hk2⟩ := HK.out); (go_roundg (gk - 1))
      case measure => omega
      case rel => exact ⟨j + 1, y, rfl, lv_succ (by have h_ := HW.out.wl; omega), ⟨by omega⟩, HM3, HU⟩
     ·(have HM3 : Aside0 (plMost room (walk.drop (j + 1)) a = most) := ⟨by have h_ := HMM2.out; rwa [if_neg c] at h_⟩);(clear HMM2)
      (go_wp2_with fail); (obtain ⟨hk1, hk2⟩ := HK.out); (go_roundg (gk - 1))
      case measure => omega
      case rel => exact ⟨j + 1, a, rfl, lv_succ (by have h_ := HW.out.wl; omega), ⟨by omega⟩, HM3, HU⟩
    ·(have hge : ¬ ((j : Int) < (walk.length : Int)) := by omega);(have hmm := HMM.out);(rw [List.drop_of_length_le (by omega)] at hmm);(have hmm2 : a = most := hmm);(subst hmm2);(clear hmm HMM);(have hcb : wr.cell? ⟨gb, 0, none⟩ = some (.pointer (some ⟨gw, 0, none⟩)) := (blk_cell HU.out.b1 0).trans rfl);(have h7 := HU.out.pl.g7)
     have hcl : cloneI.f walk = some walk := by
      (unfold cloneI.f);(rw [if_pos (by have h_ := HW.out.wl; omega)])
     (have HCL := Aside0.mk hcl);(clear hcl)
     go_wp2_with (first
      | (go_at_call 57; refine (cloneI.calls _ _ walk walk _ (Kd.R_reads' HU.out.pl.walk).2.2 (Kd.R_reads' HU.out.pl.walk).2.1 HCL.out).mono ?_; rintro e w4 ⟨v45, rfl, ho, hb⟩; obtain ⟨At, ct, et⟩ := Kd.R_slice ho; subst et; have HU4 := Aside0.mk (HU.out.move hb); have HT4 : Aside0 (Rw (more own w 3) 3 3 w4 w.heap.size (.slice At walk.length ct) walk) := ⟨Kd.R_lower (Kd.R_mono (Kd.R_bound ho) (fun k_ hk_ => more_new (Nat.le_trans HU.out.st.2 hk_.2.1))) HU.out.st.2⟩; clear ho hb HU hcb h7)
      | ((with_reducible refine gate_dst (N := 6) rfl ?_); refine box_event ?hg (N := 6) ?hd (cs := #[.slice none 0 0, .int .i64 0]) (t := 61) ?hr ?_; (case hd => rfl); (case hg => rfl); (case hr => first | (go_simp; done) | (go_simp; rfl)); intro g6 hg6 w5 hbox hb; have BN6 := Aside0.mk hbox; have G6 : Aside0 (g6 = w4.heap.size) := ⟨hg6⟩; have HB5 := Aside0.mk hb; have hc60 : w5.cell? ⟨g6, 0, none⟩ = some (.slice none 0 0) := (blk_cell BN6.out 0).trans rfl; have hc61 : w5.cell? ⟨g6, 1, none⟩ = some (.int .i64 0) := (blk_cell BN6.out 1).trans rfl; have hf60 : w5.frozen? ⟨g6, 0, none⟩ = false := blk_frozen BN6.out 0; have hf61 : w5.frozen? ⟨g6, 1, none⟩ = false := blk_frozen BN6.out 1; have hb46 : Below w4.heap.size w4 ((w5.setCell ⟨g6, 0, none⟩ (.slice At walk.length ct)).setCell ⟨g6, 1, none⟩ (.int .i64 a)) := below_set (below_set hb (Nat.le_of_eq hg6.symm)) (Nat.le_of_eq hg6.symm); have HU6 := Aside0.mk (HU4.out.move hb46); have HT6 := Aside0.mk (HT4.out.stay (T := fun _ => False) (Stay.below hb46) id); have B6 : Aside0 (((w5.setCell ⟨g6, 0, none⟩ (.slice At walk.length ct)).setCell ⟨g6, 1, none⟩ (.int .i64 a)).heap[g6]? = some (.cells #[.slice At walk.length ct, .int .i64 a] 61 (0, 0))) := ⟨blk_put (blk_put hbox 0 _ rfl) 1 _ rfl⟩; have hcb6 : ((w5.setCell ⟨g6, 0, none⟩ (.slice At walk.length ct)).setCell ⟨g6, 1, none⟩ (.int .i64 a)).cell? ⟨gb, 0, none⟩ = some (.pointer (some ⟨gw, 0, none⟩)) := (blk_cell HU6.out.b1 0).trans rfl; have h76 := HU6.out.pl.g7; have O6 : Aside0 (more own w 3 g6 = 3) := ⟨more_new (by rw [hg6]; exact HU4.out.st.2)⟩; clear hbox hg6 hb hb46 HU4 HT4))
     ((clear hc60 hc61 hf60 hf61 hcb6 h76 hge);(have hu6 := HU6.out);(have ht6 := HT6.out);(have hb6 := B6.out);(clear HU6 HT6 B6 BN6 HB5 G6);(generalize ((w5.setCell ⟨g6, 0, none⟩ (.slice At walk.length ct)).setCell ⟨g6, 1, none⟩ (.int .i64 a)) = w6 at *);(have HU6 := Aside0.mk hu6);(have HT6 := Aside0.mk ht6);(have B6 := Aside0.mk hb6);(clear hu6 ht6 hb6 hlt)); (go_loopg [53] (walk.length + 1) (fun kq v53 wr => ∃ (j : Nat) (rm : List Int), v53 = .int .i64 j ∧ Aside0 (j + kq = walk.length + 1 ∧ 0 < kq) ∧ Aside0 (plPour a (walk.drop j) rm = room2) ∧ Aside0 (rm.length = room.length) ∧ Aside0 (Pu 98 2 3 22 92 61 own (more own w 3) w0 w wr gw (.int .i64 n) (.int .i64 s) (.int .i64 t) (.slice A3 l.length c3) (.slice (some ⟨g8, 0, none⟩) room.length cr) rm least gt m ts (.slice (some ⟨g9, 0, none⟩) walk.length cw) walk gb gr) ∧ Aside0 (Rw (more own w 3) 3 3 wr w.heap.size (.slice At walk.length ct) walk) ∧ Aside0 (wr.heap[g6]? = some (.cells #[.slice At walk.length ct, .int .i64 a] 61 (0, 0)))))
     case atStart => exact ⟨0, room, rfl, ⟨by omega⟩, ⟨by rw [List.drop_zero]; exact HR2.out⟩, ⟨rfl⟩, HU6, HT6, B6⟩
     case round =>
      ((clear HU6 HT6 B6);(obtain ⟨j, rm, rfl, HK, HPO, HRL, HU, HT, B6⟩ := hrel)); (by_cases hlt : j < walk.length)
      ·(have hlt2 : (j : Int) < (walk.length : Int) := by omega);(have hj0 : (0 : Int) ≤ (j : Int) := by omega);(obtain ⟨_, e9, hrd⟩ := HU.out.pl.walk.read hlt);(cases e9);(have hrn := HA.out walk[j] (List.getElem_mem hlt));(have hpo := HPO.out);(rw [List.drop_eq_getElem_cons hlt] at hpo);(obtain ⟨r, hr⟩ : ∃ r : Nat, walk[j] = (r : Int) := ⟨(walk[j]).toNat, by omega⟩);(rw [hr] at hrn hrd hpo);(obtain ⟨z, hz⟩ : ∃ z : Nat, Go.bits .xor .i64 (r : Int) 1 = (z : Int) := ⟨(Go.bits .xor .i64 (r : Int) 1).toNat, by omega⟩);(rw [hz] at hrn);(have hrm2 : (r : Int) < (room.length : Int) := hrn.2.1);(have hr0' : (0 : Int) ≤ (r : Int) := by omega);(have hzm2 : (z : Int) < (room.length : Int) := hrn.2.2.2);(have hz0' : (0 : Int) ≤ (z : Int) := by omega);(simp only [plPour] at hpo);(rw [hz, Int.toNat_natCast, Int.toNat_natCast] at hpo);(obtain ⟨y, hy⟩ : ∃ y, rd rm (r : Int) = y := ⟨_, rfl⟩);(rw [hy] at hpo);(have HPO2 := Aside0.mk hpo);(obtain ⟨hrr, hrf⟩ := Kd.R_celln (0 : Int) HU.out.pl.room (r : Int) hr0' hrm2);(have erd : rdOf (0 : Int) rm (r : Int) = rd rm (r : Int) := rfl);(rw [erd, hy, Int.toNat_natCast] at hrr);(rw [Int.toNat_natCast] at hrf);(have hcb : wr.cell? ⟨gb, 0, none⟩ = some (.pointer (some ⟨gw, 0, none⟩)) := (blk_cell HU.out.b1 0).trans rfl);(have h4 := HU.out.pl.g4);(have HZX := Aside0.mk hz);(have hu7 := HU.out.put (r : Int) (wrap64 (y - a)));(rw [Int.toNat_natCast] at hu7);(have hs7 : Stay (more own w 3) (more own w 3) (fun t_ => t_ = 8) wr (wr.setCell ⟨g8, r, none⟩ (.int .i64 (wrap64 (y - a)))) := Stay.set HU.out.pl.room.block);(have ht7 := HT.out.stay hs7 (by decide));(have hb7 : (wr.setCell ⟨g8, r, none⟩ (.int .i64 (wrap64 (y - a)))).heap[g6]? = _ := blk_far B6.out (fun e_ => by have h1_ := O6.out; have h2_ := HU.out.pl.room.block; have e2_ : g6 = g8 := e_; rw [e2_] at h1_; omega) _);(obtain ⟨y2, hy2⟩ : ∃ y2, rd (rm.set r (wrap64 (y - a))) (z : Int) = y2 := ⟨_, rfl⟩);(obtain ⟨hzr, hzf⟩ := Kd.R_celln (0 : Int) hu7.pl.room (z : Int) hz0' hzm2);(have erz : rdOf (0 : Int) (rm.set r (wrap64 (y - a))) (z : Int) = rd (rm.set r (wrap64 (y - a))) (z : Int) := rfl);(rw [erz, hy2, Int.toNat_natCast] at hzr);(rw [Int.toNat_natCast] at hzf);(have hcb7 : (wr.setCell ⟨g8, r, none⟩ (.int .i64 (wrap64 (y - a)))).cell? ⟨gb, 0, none⟩ = some (.pointer (some ⟨gw, 0, none⟩)) := (blk_cell hu7.b1 0).trans rfl);(have h47 := hu7.pl.g4);(have hu8 := hu7.put (z : Int) (wrap64 (y2 + a)));(rw [Int.toNat_natCast] at hu8);(have hs8 : Stay (more own w 3) (more own w 3) (fun t_ => t_ = 8) (wr.setCell ⟨g8, r, none⟩ (.int .i64 (wrap64 (y - a)))) ((wr.setCell ⟨g8, r, none⟩ (.int .i64 (wrap64 (y - a)))).setCell ⟨g8, z, none⟩ (.int .i64 (wrap64 (y2 + a)))) := Stay.set hu7.pl.room.block);(have ht8 := ht7.stay hs8 (by decide));(have hb8 : ((wr.setCell ⟨g8, r, none⟩ (.int .i64 (wrap64 (y - a)))).setCell ⟨g8, z, none⟩ (.int .i64 (wrap64 (y2 + a)))).heap[g6]? = _ := blk_far hb7 (fun e_ => by have h1_ := O6.out; have h2_ := HU.out.pl.room.block; have e2_ : g6 = g8 := e_; rw [e2_] at h1_; omega) _);(rw [hy2] at hpo);(have HPO3 := Aside0.mk hpo);(have HRL2 : Aside0 (((rm.set r (wrap64 (y - a))).set z (wrap64 (y2 + a))).length = room.length) := ⟨by rw [List.length_set, List.length_set]; exact HRL.out⟩);(have HU8 := Aside0.mk hu8);(have HT8 := Aside0.mk ht8);(have B8 := Aside0.mk hb8);(clear hrn hpo hr hlt HPO HPO2 hy erd hu7 hs7 ht7 hb7 hy2 erz hu8 hs8 ht8 hb8)
       (go_wp2_with fail); (obtain ⟨hk1, hk2⟩ := HK.out); (go_roundg (gk - 1))
       case measure => omega
       case rel => exact ⟨j + 1, _, lv_succ (by have h_ := HW.out.wl; omega), ⟨by omega⟩, HPO3, HRL2, HU8, HT8, B8⟩
      ·(have hge : ¬ ((j : Int) < (walk.length : Int)) := by omega);(have hpo := HPO.out);(rw [List.drop_of_length_le (by omega)] at hpo);(have hpo2 : rm = room2 := hpo);(subst hpo2);(clear hpo HPO hlt);(have hcb : wr.cell? ⟨gb, 0, none⟩ = some (.pointer (some ⟨gw, 0, none⟩)) := (blk_cell HU.out.b1 0).trans rfl);(have h7 := HU.out.pl.g7);(obtain ⟨cu, hcu⟩ : ∃ cu : Nat, plIx rm least walk 0 = (cu : Int) := ⟨(plIx rm least walk 0).toNat, by have := HIX.out; omega⟩)
       have hcul : cu < walk.length := by
        (have h_ := plIx_in rm least walk 0); (omega)
       ((have HCU := Aside0.mk hcu);(have HCL2 := Aside0.mk hcul);(have hw2 := HW2.out);(rw [hcu, Int.toNat_natCast] at hw2);(have HW3 := Aside0.mk hw2);(have hcu0 : (0 : Int) ≤ (cu : Int) := by omega);(have hcu1 : (cu : Int) ≤ (walk.length : Int) := by omega);(have hcc : cu ≤ cw := by have h1_ := (Kd.R_reads' HU.out.pl.walk).2.1; omega);(clear hcu hcul hw2)); (go_wp2_with (go_at_call 58; refine (plIx_calls (gb := gb) ?i1 ?i2 ?i3 hcb HU.out.pl).mono ?_; (case i1 => exact fun r_ hr_ => by have h1_ := HA.out r_ hr_; have h2_ := HRL.out; omega); (case i2 => have h_ := HW.out.wl; omega); (case i3 => exact blk_lt HU.out.b1); rw [HCU.out]; rintro e w9 ⟨rfl, hb⟩; have HU9 := Aside0.mk (HU.out.move hb); have HT9 := Aside0.mk (HT.out.stay (T := fun _ => False) (Stay.below hb) id); have B9 := Aside0.mk (blk_below B6.out hb); clear hb HU HT B6 hcb h7; have hcb : w9.cell? ⟨gb, 0, none⟩ = some (.pointer (some ⟨gw, 0, none⟩)) := (blk_cell HU9.out.b1 0).trans rfl; have h7 := HU9.out.pl.g7; have hf7 := HU9.out.pl.f7)); go_region; ((have hbk := HU9.out.pl.back (k := cu) (by have h_ := HCL2.out; omega));(have hsx : Stay (more own w 3) (more own w 3) (fun t_ => t_ = 6) w9 (w9.setCell ⟨gw, 7, none⟩ (.slice (some ⟨g9, 0, none⟩) cu cw)) := Stay.set HU9.out.pl.box.1);(have hg6 : ∀ g_, more own w 3 g_ = 3 → g_ ≠ gw := fun g_ h_ e_ => by have h2_ := HU9.out.pl.box.1; rw [e_] at h_; omega);(have hst := Stay.go HU9.out.st hbk.2 (set_size _ _));(have hb2 : (w9.setCell ⟨gw, 7, none⟩ (.slice (some ⟨g9, 0, none⟩) cu cw)).heap[gr]? = some (.cells #[.slice none 0 0, .int .i64 0] 61 (0, 0)) := blk_far HU9.out.b2 (hg6 gr HU9.out.o2) _);(have hb6 : (w9.setCell ⟨gw, 7, none⟩ (.slice (some ⟨g9, 0, none⟩) cu cw)).heap[g6]? = some (.cells #[.slice At walk.length ct, .int .i64 a] 61 (0, 0)) := blk_far B9.out (hg6 g6 O6.out) _);(have ht10 := HT9.out.stay hsx (by decide));(have hbd : Below (w9.setCell ⟨gw, 7, none⟩ (.slice (some ⟨g9, 0, none⟩) cu cw)).heap.size (w9.setCell ⟨gw, 7, none⟩ (.slice (some ⟨g9, 0, none⟩) cu cw)) (w9.setCell ⟨gw, 7, none⟩ (.slice (some ⟨g9, 0, none⟩) cu cw)).drew := below_drew (Below.refl _ _));(have HP11 := Aside0.mk (hbk.1.move hbd));(have HS11 := Aside0.mk (Stay.go hst (Stay.below hbd) (below_size hbd)));(have HB2 := Aside0.mk (blk_drew hb2));(have HB6 := Aside0.mk (blk_drew hb6));(have HT11 := Aside0.mk (ht10.stay (T := fun _ => False) (Stay.below hbd) id));(have HGR : Aside0 (w.heap.size ≤ gr ∧ more own w 3 gr = 3) := ⟨HU9.out.n2, HU9.out.o2⟩);(have hw0 := HW00.out);(clear hbk hsx hg6 hst hb2 hb6 ht10 hbd HU9 HT9 B9 hcb h7 hf7);(generalize (w9.setCell ⟨gw, 7, none⟩ (.slice (some ⟨g9, 0, none⟩) cu cw)).drew = w11 at *);(have hc60 : w11.cell? ⟨g6, 0, none⟩ = some (.slice At walk.length ct) := (blk_cell HB6.out 0).trans rfl);(have hc61 : w11.cell? ⟨g6, 1, none⟩ = some (.int .i64 a) := (blk_cell HB6.out 1).trans rfl);(have hc20 : w11.cell? ⟨gr, 0, none⟩ = some (.slice none 0 0) := (blk_cell HB2.out 0).trans rfl);(have hc21 : w11.cell? ⟨gr, 1, none⟩ = some (.int .i64 0) := (blk_cell HB2.out 1).trans rfl);(have hf20 : w11.frozen? ⟨gr, 0, none⟩ = false := blk_frozen HB2.out 0);(have hf21 : w11.frozen? ⟨gr, 1, none⟩ = false := blk_frozen HB2.out 1);(have hb12 : (w11.setCell ⟨gr, 0, none⟩ (.slice At walk.length ct)).heap[gr]? = some (.cells #[(.slice At walk.length ct), .int .i64 0] 61 (0, 0)) := blk_put HB2.out 0 _ rfl);(have hb13 : ((w11.setCell ⟨gr, 0, none⟩ (.slice At walk.length ct)).setCell ⟨gr, 1, none⟩ (.int .i64 a)).heap[gr]? = some (.cells #[(.slice At walk.length ct), .int .i64 a] 61 (0, 0)) := blk_put hb12 1 _ rfl);(have hr0c : ((w11.setCell ⟨gr, 0, none⟩ (.slice At walk.length ct)).setCell ⟨gr, 1, none⟩ (.int .i64 a)).cell? ⟨gr, 0, none⟩ = some (.slice At walk.length ct) := (blk_cell hb13 0).trans rfl);(have hr1c : ((w11.setCell ⟨gr, 0, none⟩ (.slice At walk.length ct)).setCell ⟨gr, 1, none⟩ (.int .i64 a)).cell? ⟨gr, 1, none⟩ = some (.int .i64 a) := (blk_cell hb13 1).trans rfl);(have HT12 := Aside0.mk (plTold (u := (.slice At walk.length ct)) (i := 0) HT11.out HB2.out (by decide)));(have HT13 := Aside0.mk (plTold (u := .int .i64 a) (i := 1) HT12.out hb12 (by decide)));(have HP13 := Aside0.mk (plFar (plFar HP11.out HGR.out.2 (Nat.le_trans hw0 HGR.out.1) 0 (.slice At walk.length ct)) HGR.out.2 (Nat.le_trans hw0 HGR.out.1) 1 (.int .i64 a)));(have HS13 := Aside0.mk (staySet (staySet HS11.out HGR.out.1 0 (.slice At walk.length ct)) HGR.out.1 1 (.int .i64 a)));(have HB13 := Aside0.mk hb13))
       have hwlast : PlW n m rm.length ts walk2 := by
        (have h1_ := HW.out.take (j := cu));(rw [HW3.out, ← HRL.out] at h1_);(exact h1_)
       ((have HWL := Aside0.mk hwlast);(clear hb12 hb13 hw0 hwlast)); (go_wp2_with fail); ((refine bodyPost_ret (results_cell_row rfl _ _ gr 61 #[.slice At walk.length ct, .int .i64 a] (0, 0) _ rfl HB13.out Try.underlying61 rfl (by kernel_rfl)) rfl ?_);(have hp13 := HP13.out);(rw [HW3.out] at hp13);(exact ⟨.slice At walk.length ct, rfl, more own w 3, _, hp13, HWL.out, HS13.out.1, HS13.out.2, HT13.out⟩))
  (·(rw [if_neg hix] at hn); (exact absurd hn (by simp)))
 (·(rw [if_neg hall] at hn); (exact absurd hn (by simp)))
end Go.Proofs.Ytdiaedecnfbgdaa.PPlainBlocks
