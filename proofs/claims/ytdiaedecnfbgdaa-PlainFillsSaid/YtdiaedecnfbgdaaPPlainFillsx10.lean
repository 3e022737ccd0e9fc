/- For the law PlainFills, for every input: printed by a program (wip/myprint), contracts by hand where it says MANUAL. -/
-- slim
import Derived.Test.YtdiaedecnfbgdaaPPlainFillsx0
import Derived.Test.YtdiaedecnfbgdaaPPlainFillsx7
import Derived.Test.YtdiaedecnfbgdaaPPlainFillsx8
namespace Go.Proofs.Ytdiaedecnfbgdaa.PPlainFills
open Go.RowKit Go.Proofs.YtdiaedecnfbgdaaW.PrintWords Go.Proofs.YtdiaedecnfbgdaaW.PrintLast Go.Proofs.YtdiaedecnfbgdaaW.PrintMore
attribute [local go_sem] max2_int min2_int max_two min_two max_three min_three max_four min_four
set_option linter.unusedVariables false
set_option linter.unusedSimpArgs false
/-! ### plain_walker_end: function 56 -/
-- MANUAL: this contract was written by hand.
open Go.Proofs.YtdiaedecnfbgdaaW.Mine
/-- Where a walk is. -/
def plEnd (l : List S30) (s : Int) (walk : List Int) : Int := if walk.length = 0 then s else lvTo l (rd walk ((walk.length : Int) - 1))
set_option maxHeartbeats 8000000 in
set_option maxRecDepth 100000 in
theorem plEnd_calls {own : Nat → Nat} {w0 w : World} {gw : Nat} {n s t : Int} {A3 : Option Addr} {c3 : Nat} {l : List (S30)} {vr : Value} {room : List Int} {least : Int} {gt m : Nat} {ts : List (List Int)} {vw : Value} {walk : List Int}
  (HR : Kd.C k30 w0 A3 l.length l) (HC : l.length ≤ c3) (hf : lvFit n s l room = true) (hw : ∀ r ∈ walk, 0 ≤ r ∧ r < (room.length : Int)) (hwl1 : walk.length ≤ 2000000)
  (h : Pl 98 2 3 22 own w0 w gw (.int .i64 n) (.int .i64 s) (.int .i64 t) (.slice A3 l.length c3) vr room least gt m ts vw walk) :
  Calls Try.prog 56 #[.pointer (some ⟨gw, 0, none⟩)] w fun e w' => e = .returned (.int .i64 (plEnd l s walk)) ∧ Below w.heap.size w w' := by
 have hu26 := Try.underlying26
 have hu28 := Try.underlying30
 have hu98 := Try.underlying98
 obtain ⟨Aw, cw, ew⟩ := Kd.R_slice h.walk
 subst ew
 have h7 := h.g7
 by_cases hz : walk.length = 0
 ·have h1 := h.g1
  have he : plEnd l s walk = s := if_pos hz
  rw [hz] at h7
  go_enter Try.func56, Try.ntmps56
  go_wp2
  go_ret
  exact ⟨by rw [he]; rfl, Below.refl _ _⟩
 ·obtain ⟨p, hp⟩ : ∃ p : Nat, walk.length = p + 1 := ⟨walk.length - 1, by omega⟩
  have hpw : p < walk.length := by omega
  obtain ⟨g9, hg9, hrd⟩ := Rw.read h.walk hpw
  subst hg9
  have hrn := hw walk[p] (List.getElem_mem hpw)
  obtain ⟨r, hr⟩ : ∃ r : Nat, walk[p] = (r : Int) := ⟨(walk[p]).toNat, by omega⟩
  have hwl : wrap64 ((walk.length : Int) - 1) = (p : Int) := by unfold wrap64; omega
  have hwi : IntKind.i64.wrap ((walk.length : Int) - 1) = (p : Int) := by rw [IntKind.wrap_i64]; omega
  have he : plEnd l s walk = lvTo l (r : Int) := by
   (have e1 : (walk.length : Int) - 1 = (p : Int) := by omega);(rw [plEnd, if_neg hz, e1, ← hr])
   simp [rd, hpw]
  rw [hr] at hrn hrd
  have hf2 := hf
  simp only [lvFit, Bool.and_eq_true, decide_eq_true_eq] at hf2
  obtain ⟨⟨f0, f1, f2, f3, f4, f5⟩, -⟩ := hf2
  have hr0 : (0 : Int) ≤ (r : Int) := by omega
  have HE := Aside0.mk (lvEnds (n := n) (s := s) (t := t) (r := (r : Int)) (l := l) hr0 (by omega) f4)
  obtain ⟨z, hz3⟩ : ∃ z, lvFrom l (r : Int) = z := ⟨_, rfl⟩
  obtain ⟨y, hy3⟩ : ∃ y, lvTo l (r : Int) = y := ⟨_, rfl⟩
  rw [hz3, hy3] at HE
  rw [hy3] at he
  have hz1 : ((walk.length : Int) == 0) = false := beq_eq_false_iff_ne.mpr (by omega)
  have hp0 : (0 : Int) ≤ (p : Int) := by omega
  have hp1 : (p : Int) < (walk.length : Int) := by omega
  have h0 := h.g0
  have h1 := h.g1
  have h2 := h.g2
  have h3 := h.g3
  have HH := Aside0.mk h
  have HRR := Aside0.mk HR
  have HW := Aside0.mk (Below.refl w.heap.size w)
  clear h HR hf hw hp hpw hr hrn hz f0 f1 f2 f3 f4 f5 hz3 hy3 hr0
  go_enter Try.func56, Try.ntmps56
  go_wp2_with fail
  go_region_with (go_at_call 49; refine (residual_Ends.calls 1 n s t A3 c3 l (r : Int) z y _ ?s1 HC HE.out).mono ?_; (case s1 => exact Kd.C_below HRR.out (by repeat (first | (with_reducible first | exact HH.out.below | apply below_alloc | apply pw_below_drewN | apply below_drew1) | exact HH.out.below))); rintro e w5 ⟨rfl, hb⟩; have HB := Aside0.mk (below_step (by repeat (first | (with_reducible first | exact HW.out | apply below_alloc | apply pw_below_drewN | apply below_drew1) | exact HW.out)) hb); clear hb)
  all_goals (try go_wp2)
  all_goals go_ret
  all_goals exact ⟨by rw [he]; rfl, by repeat (first | (with_reducible first | exact HB.out | apply below_alloc | apply pw_below_drewN | apply below_drew1 | apply below_drew) | exact HB.out)⟩
end Go.Proofs.Ytdiaedecnfbgdaa.PPlainFills
