/- Plain lists and numbers, for the law PlainRooms: no program and no memory. -/
-- slimm
import Derived.Test.YtdiaedecnfbgdaaPPlainRoomsx0
import Derived.Test.YtdiaedecnfbgdaaPPlainRoomsx7
import Derived.Test.YtdiaedecnfbgdaaPPlainRoomsx23
import Derived.Test.YtdiaedecnfbgdaaMPlainRoomsAll
set_option linter.unusedVariables false
namespace Go.Proofs.Ytdiaedecnfbgdaa.Pure
open Go.RowKit Go.Proofs.Ytdiaedecnfbgdaa.PPlainRooms Go.Proofs.YtdiaedecnfbgdaaW.PrintWords Go.Proofs.YtdiaedecnfbgdaaW.PrintLast
theorem pr_loop {d e : Int} {many more : List S61} (hl : more.length ≤ 1000000) (hm : ∀ w ∈ more, d < (w.f0.length : Int)) (he : 0 ≤ e → 0 ≤ d ∧ d ≤ e) (hd : many ≠ [] ↔ 0 ≤ d) (q : Nat) : ∀ i : Nat, i + q = more.length →
  Ev (fun k => racewaylaw8_PlainRooms.l0 k d e many more (i : Int)) true := by
 induction q with
 | zero =>
  intro i hi
  refine Ev.step (f := fun _ => some true) (fun k => ?_) (Ev.now _)
  have hc : (many.length : Int) > 0 ↔ 0 ≤ d := by
   rw [← hd]
   cases many with
   | nil => simp
   | cons a l => simp <;> omega
  simp only [racewaylaw8_PlainRooms.l0]
  rw [if_neg (by omega)]
  by_cases c : e < 0
  ·rw [if_pos c]
   by_cases c2 : 0 ≤ d
   ·rw [if_pos (hc.2 c2), if_pos c2]
   ·rw [if_neg (fun h => c2 (hc.1 h)), if_neg c2]
  ·obtain ⟨h1, h2⟩ := he (by omega)
   rw [if_neg c, if_pos h1, if_pos h2, if_pos (hc.2 h1)]
 | succ q ih =>
  intro i hi
  have hil : i < more.length := by omega
  refine Ev.step (fun k => ?_) (ih (i + 1) (by omega))
  have hw : wrap64 ((i : Int) + 1) = ((i + 1 : Nat) : Int) := wrap_succ (by omega)
  have hr : rd_T61 more (i : Int) = more[i] := by simp [rd_T61, hil]
  have := hm _ (List.getElem_mem hil)
  simp only [racewaylaw8_PlainRooms.l0]
  rw [if_pos (by omega), if_pos (by omega), hr, if_neg (by omega), hw]
theorem PlainRooms : racewaylaw8_PlainRooms.Pure := by
 intro a0 a1 l2 a3 a4 w0 w1 m2 w2 w3 w4
 obtain ⟨n, s, t, l, hmade, n2, n9, R, hl, _, hcap⟩ := made_ev w0 w1 w2
 have hcap2 : ∀ a ∈ l, a.f2 < 1000000000000 := fun a ha => by have := hcap a ha; omega
 obtain ⟨x3, y3⟩ := wf_bounds w3
 obtain ⟨x4, y4⟩ := wf_bounds w4
 have p3 := pk_range (c := a3) (n := 20) (by decide)
 have p4 := pk_range (c := a4) (n := 20) (by decide)
 obtain ⟨a, ha⟩ : ∃ a, pk a3 20 = a := ⟨_, rfl⟩
 obtain ⟨b, hb⟩ : ∃ b, pk a4 20 = b := ⟨_, rfl⟩
 rw [ha] at p3
 rw [hb] at p4
 have hmn : 0 ≤ mn a b ∧ mn a b ≤ mx a b ∧ mx a b < 20 := by unfold mn mx; split <;> split <;> omega
 have hwx : wrap64 (1 + mn a b) = 1 + mn a b := wrap_id (by omega) (by omega)
 have hwy : wrap64 (1 + mx a b) = 1 + mx a b := wrap_id (by omega) (by omega)
 have F : IsFlow n s t l (List.replicate l.length 0) := IsFlow.zeros R.arcs
 obtain ⟨p, hp, U⟩ := levels_ev R F (least := 1 + mn a b) (by omega)
 obtain ⟨q, hq, V⟩ := levels_ev R F (least := 1 + mx a b) (by omega)
 obtain ⟨far, hfar, Z⟩ := levels_ev R F (least := 4611686018427387904) (by decide)
 obtain ⟨g, many, hblk, G, C, hcut, hlm⟩ := block_ev R F hcap2 (by omega) hp U
 obtain ⟨u, hu, Y⟩ := levels_ev R G (least := 1 + mx a b) (by omega)
 obtain ⟨h, more, hblk2, _, C2, _, hlm2⟩ := block_ev R G hcap2 (by omega) hu Y
 obtain ⟨top, none, hblk3, _, C3, hcut3, _⟩ := block_ev R F hcap2 (by decide) hfar Z
 have hll := ld_len (l := l) (room := roomOf l g) (up := u) (least := 1 + mx a b) (2 * l.length)
 have t1 := R.t1
 have hnone : none = [] := by
  apply Classical.byContradiction
  intro hne
  have h0 := (chain_nil R Z C3 hcut3).1 hne
  by_cases c : 0 < rd far t
  ·obtain ⟨r, hr, hroom, _, _⟩ := Z.pred t (by omega) R.tn c
   have := room_lt F.1 hcap2 hr
   omega
  ·exact R.ne (Z.zero t (by omega) R.tn (by omega)).symm
 subst hnone
 have htop : top = List.replicate l.length 0 := C3
 have hd1 := deep_ev R hp U
 have hd2 := deep_ev R hq V
 have hmono := fun h => up_mono R U (show 1 + mn a b ≤ 1 + mx a b by omega) V (v := t) (by omega) R.tn h
 have hmany := chain_nil R U C hcut
 have L0 := pr_loop (many := many) (more := more) (d := rd p t) (e := rd q t) (by omega) (fun w hw => by
  have e := chain_len (ld_LL R.arcs Y) R.ne Y.src C2 w hw
  have hne : 0 ≤ rd u t := by omega
  have := sink_farther R hcap2 (by omega) F U C hcut (show 1 + mn a b ≤ 1 + mx a b by omega) Y hne
  omega) hmono hmany more.length 0 (by omega)
 refine Ev.rounds ?_
 unfold racewaylaw8_PlainRooms.f
 refine Ev.bind shown8_ev ?_
 simp only [if_true]
 refine Ev.bind hmade ?_
 simp only [pick_eq x3 y3 (show (0 : Int) < 20 by decide), pick_eq x4 y4 (show (0 : Int) < 20 by decide), ha, hb, Option.bind_some, hwx, hwy, Int.toNat_natCast]
 simp only [if_pos (show (0 : Int) ≤ (l.length : Int) by omega), if_pos (show l.length ≤ 35184372088832 by omega)]
 refine Ev.bind hd1 (Ev.bind hd2 (Ev.bind hblk (Ev.bind hblk2 (Ev.bind hblk3 ?_))))
 have hz : ((([] : List S61).length : Nat) : Int) = 0 := rfl
 simp only [if_true, if_pos hz, htop]
 refine Ev.bind (same_ev _ _ (by rw [List.length_replicate]; omega)) ?_
 refine Ev.step (fun k => ?_) L0
 simp only [racewaylaw8_PlainRooms.j0, decide_true, Bool.not_true]
 rw [if_neg (by decide)]
 rfl
end Go.Proofs.Ytdiaedecnfbgdaa.Pure
