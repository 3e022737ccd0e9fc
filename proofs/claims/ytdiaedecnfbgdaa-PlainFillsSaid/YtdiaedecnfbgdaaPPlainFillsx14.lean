/- For the law PlainFills, for every input: printed by a program (wip/myprint), contracts by hand where it says MANUAL. -/
-- slim
import Derived.Test.YtdiaedecnfbgdaaPPlainFillsx0
import Derived.Test.YtdiaedecnfbgdaaPPlainFillsx8
import Derived.Test.YtdiaedecnfbgdaaPPlainFillsx13
namespace Go.Proofs.Ytdiaedecnfbgdaa.PPlainFills
open Go.RowKit Go.Proofs.YtdiaedecnfbgdaaW.PrintWords Go.Proofs.YtdiaedecnfbgdaaW.PrintLast Go.Proofs.YtdiaedecnfbgdaaW.PrintMore
attribute [local go_sem] max2_int min2_int max_two min_two max_three min_three max_four min_four
set_option linter.unusedVariables false
set_option linter.unusedSimpArgs false
/-! ### slices_IndexFunc_int_int: function 58 -/
-- MANUAL: this contract was written by hand.
open Go.Proofs.YtdiaedecnfbgdaaW.Mine
/-- The place of the first track without the room. -/
def plIx (room : List Int) (least : Int) : List Int → Int → Int
 | [], _ => -1
 | r :: rs, i => if rd room r < least then i else plIx room least rs (i + 1)
set_option maxHeartbeats 8000000 in
set_option maxRecDepth 100000 in
theorem plIx_calls {own : Nat → Nat} {w0 w : World} {gw gb : Nat} {c0 c1 c2 c3 vr : Value} {room : List Int} {least : Int} {gt m : Nat} {ts : List (List Int)} {Aw : Option Addr} {cw : Nat} {walk : List Int}
  (hw : ∀ r ∈ walk, 0 ≤ r ∧ r < (room.length : Int)) (hwl : walk.length ≤ 2000000) (hbs : gb < w.heap.size)
  (hb : w.cell? ⟨gb, 0, none⟩ = some (.pointer (some ⟨gw, 0, none⟩))) (h : Pl 98 2 3 22 own w0 w gw c0 c1 c2 c3 vr room least gt m ts (.slice Aw walk.length cw) walk) :
  Calls Try.prog 58 #[.slice Aw walk.length cw, .func (.func 59) #[] #[.pointer (some ⟨gb, 0, none⟩)]] w fun e w' => e = .returned (.int .i64 (plIx room least walk 0)) ∧ Below w.heap.size w w' := by
 have HP := Aside0.mk h
 have HW := Aside0.mk hw
 have HWL := Aside0.mk hwl
 have HBP := Aside0.mk hb
 have HB := Aside0.mk (Below.refl w.heap.size w)
 obtain ⟨R, hR⟩ : ∃ R, plIx room least walk 0 = R := ⟨_, rfl⟩
 have H := Aside0.mk hR
 rw [hR]
 clear h hw hwl hb hR
 go_enter Try.func58, Try.ntmps58
 go_wp2_with fail
 go_loopg [8] (walk.length + 1) (fun kq v8 wr => ∃ (j : Nat), v8 = .int .i64 j ∧ Aside0 (j + kq = walk.length + 1 ∧ 0 < kq) ∧ Aside0 (plIx room least (walk.drop j) (j : Int) = R) ∧ Aside0 (Below w.heap.size w wr))
 case atStart => exact ⟨0, rfl, ⟨by omega⟩, ⟨by rw [List.drop_zero]; exact H.out⟩, HB⟩
 case round =>
  clear HB H
  obtain ⟨j, rfl, HK, HA, HB⟩ := hrel
  by_cases hlt : j < walk.length
  ·have hlt2 : (j : Int) < (walk.length : Int) := by omega
   (have hj0 : (0 : Int) ≤ (j : Int) := by omega);(have HPr := Aside0.mk (HP.out.move HB.out));(obtain ⟨g9, hg9, hrd⟩ := HPr.out.walk.read hlt);(subst hg9);(have hrn := HW.out walk[j] (List.getElem_mem hlt));(have hA := HA.out);(rw [List.drop_eq_getElem_cons hlt] at hA);(obtain ⟨r, hr⟩ : ∃ r : Nat, walk[j] = (r : Int) := ⟨(walk[j]).toNat, by omega⟩);(rw [hr] at hrn hrd hA);(have HRN : Aside0 (r < room.length) := ⟨by omega⟩);(have HCB := Aside0.mk (pw_cell_below HB.out HBP.out));(simp only [plIx] at hA);(clear hrn hr hlt)
   by_cases c : rd room (r : Int) < least
   ·(rw [if_pos c] at hA);(subst hA);(have hd : decide (rd room (r : Int) < least) = true := decide_eq_true c);(have HD := Aside0.mk hd);(clear c hd)
    go_wp2_with (go_at_call 59; refine (plLess_calls r HRN.out HCB.out HPr.out).mono ?_; rw [HD.out]; rintro e w5 ⟨rfl, hb⟩; have HB5 := Aside0.mk (below_step HB.out hb); clear hb)
    go_ret
    exact ⟨rfl, HB5.out⟩
   ·(rw [if_neg c] at hA);(have hd : decide (rd room (r : Int) < least) = false := decide_eq_false c);(have HD := Aside0.mk hd);(have HA2 := Aside0.mk hA);(clear c hd hA)
    go_wp2_with (go_at_call 59; refine (plLess_calls r HRN.out HCB.out HPr.out).mono ?_; rw [HD.out]; rintro e w5 ⟨rfl, hb⟩; have HB5 := Aside0.mk (below_step HB.out hb); clear hb)
    obtain ⟨hk1, hk2⟩ := HK.out
    go_roundg (gk - 1)
    case measure => omega
    case rel => exact ⟨j + 1, lv_succ (by have h_ := HWL.out; omega), ⟨by omega⟩, ⟨HA2.out⟩, HB5⟩
  ·have hge : ¬ ((j : Int) < (walk.length : Int)) := by omega
   (have hA := HA.out);(rw [List.drop_of_length_le (by omega)] at hA);(have hR : R = -1 := hA.symm);(subst hR);(clear hA)
   go_wp2_with fail
   go_ret
   exact ⟨rfl, HB.out⟩
end Go.Proofs.Ytdiaedecnfbgdaa.PPlainFills
