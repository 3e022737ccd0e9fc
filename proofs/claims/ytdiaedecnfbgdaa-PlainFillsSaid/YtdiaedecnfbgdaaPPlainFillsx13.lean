/- For the law PlainFills, for every input: printed by a program (wip/myprint), contracts by hand where it says MANUAL. -/
-- slim
import Derived.Test.YtdiaedecnfbgdaaPPlainFillsx0
namespace Go.Proofs.Ytdiaedecnfbgdaa.PPlainFills
open Go.RowKit Go.Proofs.YtdiaedecnfbgdaaW.PrintWords Go.Proofs.YtdiaedecnfbgdaaW.PrintLast Go.Proofs.YtdiaedecnfbgdaaW.PrintMore
attribute [local go_sem] max2_int min2_int max_two min_two max_three min_three max_four min_four
set_option linter.unusedVariables false
set_option linter.unusedSimpArgs false
/-! ### plain_walker_push_1: function 59 -/
-- MANUAL: this contract was written by hand.
open Go.Proofs.YtdiaedecnfbgdaaW.Mine
set_option maxHeartbeats 8000000 in
set_option maxRecDepth 100000 in
theorem plLess_calls {own : Nat → Nat} {w0 w : World} {gw gb : Nat} {c0 c1 c2 c3 vr : Value} {room : List Int} {least : Int} {gt m : Nat} {ts : List (List Int)} {vw : Value} {walk : List Int} (r' : Nat) (hr : r' < room.length)
  (hb : w.cell? ⟨gb, 0, none⟩ = some (.pointer (some ⟨gw, 0, none⟩))) (h : Pl 98 2 3 22 own w0 w gw c0 c1 c2 c3 vr room least gt m ts vw walk) :
  Calls Try.prog 59 #[.int .i64 (r' : Int), .pointer (some ⟨gb, 0, none⟩)] w fun e w' => e = .returned (.bool (decide (rd room (r' : Int) < least))) ∧ Below w.heap.size w w' := by
 have hu98 := Try.underlying98
 obtain ⟨Ar, cr, er⟩ := Kd.R_slice h.room
 subst er
 obtain ⟨g8, hg8, hrr⟩ := h.room.read hr
 subst hg8
 have erd : rd room (r' : Int) = room[r'] := by simp [rd, hr]
 rw [erd]
 obtain ⟨y, hy⟩ : ∃ y, room[r'] = y := ⟨_, rfl⟩
 rw [hy]
 rw [hy] at hrr
 have h4 := h.g4
 have h5 := h.g5
 have hrm2 : (r' : Int) < (room.length : Int) := by omega
 have hr0 : (0 : Int) ≤ (r' : Int) := by omega
 obtain ⟨q, hq⟩ : ∃ q, decide (y < least) = q := ⟨_, rfl⟩
 have HQ := Aside0.mk hq
 rw [hq]
 clear h hr erd hy
 go_enter Try.func59, Try.ntmps59
 go_wp2_with fail
 go_region
 all_goals (go_wp2_with fail)
 all_goals go_ret
 all_goals exact ⟨by first | rfl | (rw [← HQ.out]; rfl), below_drew (Below.refl _ _)⟩
end Go.Proofs.Ytdiaedecnfbgdaa.PPlainFills
