/- Plain lists and numbers, for the law LevelWalks: no program and no memory. -/
-- slim
import Derived.Test.YtbppeffcikphcaaPLevelWalksx0
import Derived.Test.YtbppeffcikphcaaPLevelWalksx6
import Derived.Test.YtbppeffcikphcaaPLevelWalksx8
import Derived.Test.YtbppeffcikphcaaPLevelWalksx9
import Derived.Test.YtbppeffcikphcaaPLevelWalksx11
import Derived.Test.YtbppeffcikphcaaPLevelWalksx17
import Derived.Test.YtbppeffcikphcaaMLevelWalksAll
set_option linter.unusedVariables false
namespace Go.Proofs.Ytbppeffcikphcaa.Pure
open Go.RowKit Go.Proofs.Ytbppeffcikphcaa.PLevelWalks Go.Proofs.YtbppeffcikphcaaW.PrintWords Go.Proofs.YtbppeffcikphcaaW.PrintLast
section
variable {n s t : Int} {l : List S49} {f up : List Int}
theorem walks_l2 (R : Right n s t l) (U : IsUp n s l (roomOf l f) 1 up) (hl : l.length ≤ 24) {d at_ err : Int} {i : Nat} (hi : i ≤ 1000) (h1 : 1 ≤ at_) (hn : at_ ≤ n) (h0 : 0 < rd up at_)
  (hnext : ∀ u, 1 ≤ u → u ≤ n → rd up u = rd up at_ - 1 → Ev (fun k => r7_LevelWalks.l1 k d u (ld l (roomOf l f) 1 up (2 * l.length)) err ((i + 1 : Nat) : Int) n s t l) true) (e : Nat) :
  ∀ (j : Nat) (x : Int), j + e = (ld l (roomOf l f) 1 up (2 * l.length)).length → ((∃ q : Nat, q < j ∧ toOf l (rd (ld l (roomOf l f) 1 up (2 * l.length)) (q : Int)) = at_) → 1 ≤ x ∧ x ≤ n ∧ rd up x = rd up at_ - 1) →
  Ev (fun k => r7_LevelWalks.l2 k d at_ (ld l (roomOf l f) 1 up (2 * l.length)) err (i : Int) x (j : Int) n s t l) true := by
 have hlen := ld_len (l := l) (room := roomOf l f) (up := up) (least := 1) (2 * l.length)
 induction e with
 | zero =>
  intro j x hj hx
  obtain ⟨r, hr, hroom, ht, hf⟩ := U.pred at_ (by omega) hn h0
  have hr0 := hr.1
  have hr1 := hr.2
  have hmem : r ∈ ld l (roomOf l f) 1 up (2 * l.length) := (ld_mem _).2 ⟨hr0, by omega, hroom, by omega, by rw [ht, hf]; omega⟩
  obtain ⟨q, hq, hqr⟩ := List.getElem_of_mem hmem
  obtain ⟨x1, xn, hxu⟩ := hx ⟨q, by omega, by rw [rd_get hq, hqr]; exact ht⟩
  refine Ev.step (fun k => ?_) (hnext x x1 xn hxu)
  simp only [r7_LevelWalks.l2]
  rw [if_neg (by omega), wrap_succ (by omega)]
 | succ e ih =>
  intro j x hj hx
  obtain ⟨q0, q1, _, q2, q3⟩ := ld_get (l := l) (room := roomOf l f) (up := up) (least := 1) (m := 2 * l.length) (i := (j : Int)) (by omega) (by omega)
  have hr : InR l (rd (ld l (roomOf l f) 1 up (2 * l.length)) (j : Int)) := ⟨q0, by omega⟩
  obtain ⟨f1, fn, t1, tn⟩ := ends_range R.arcs hr
  refine Ev.step (f := ?g) (fun k => ?h) ?e
  case h =>
   simp only [r7_LevelWalks.l2]
   rw [if_pos (by omega), if_pos (by omega)]
  case e =>
   refine Ev.bind (ends_ev hr R.len) ?_
   simp only
   by_cases c : toOf l (rd (ld l (roomOf l f) 1 up (2 * l.length)) (j : Int)) = at_
   ·refine Ev.congr (fun k => ?_) (ih (j + 1) (fromOf l (rd (ld l (roomOf l f) 1 up (2 * l.length)) (j : Int))) (by omega) (fun _ => ⟨f1, fn, by rw [← c]; omega⟩))
    rw [if_pos c, wrap_succ (by omega)]
   ·refine Ev.congr (fun k => ?_) (ih (j + 1) x (by omega) (fun ⟨q, hq, hqt⟩ => hx ⟨q, ?_, hqt⟩))
    ·rw [if_neg c, wrap_succ (by omega)]
    ·by_cases e2 : q = j
     ·subst e2; exact absurd hqt c
     ·omega
theorem walks_l1 (R : Right n s t l) (U : IsUp n s l (roomOf l f) 1 up) (hl : l.length ≤ 24) (hn9 : n ≤ 9) {d : Int} (hd : d = rd up t) (e : Nat) : ∀ (i : Nat) (at_ : Int), i ≤ 1000 → d - i ≤ e → (0 ≤ d → 1 ≤ at_ ∧ at_ ≤ n ∧ (i : Int) ≤ d ∧ rd up at_ = d - i) →
  Ev (fun k => r7_LevelWalks.l1 k d at_ (ld l (roomOf l f) 1 up (2 * l.length)) 0 (i : Int) n s t l) true := by
 have hdr := U.rng t (by have := R.t1; omega) R.tn
 induction e with
 | zero =>
  intro i at_ hi he h
  refine Ev.step (f := fun _ => some true) (fun k => ?_) (Ev.now _)
  simp only [r7_LevelWalks.l1]
  rw [if_neg (by omega), if_pos trivial]
  by_cases c : d < 0
  ·rw [if_pos c]
  ·rw [if_neg c]
   obtain ⟨a1, an, hid, hu⟩ := h (by omega)
   have := U.zero at_ (by omega) an (by omega)
   rw [this]
   simp
 | succ e ih =>
  intro i at_ hi he h
  by_cases c : (i : Int) < d
  ·obtain ⟨a1, an, hid, hu⟩ := h (by omega)
   have := walks_l2 R U hl (d := d) (at_ := at_) (err := 0) (i := i) hi a1 an (by omega) (fun u u1 un hu2 => ih (i + 1) u (by omega) (by omega) (fun _ => ⟨u1, un, by omega, by rw [hu2, hu]; omega⟩)) _ 0 0 (Nat.zero_add _) (fun ⟨q, hq, _⟩ => absurd hq (by omega))
   refine Ev.step (fun k => ?_) this
   simp only [r7_LevelWalks.l1]
   rw [if_pos c]
   rfl
  ·refine Ev.step (f := fun _ => some true) (fun k => ?_) (Ev.now _)
   simp only [r7_LevelWalks.l1]
   rw [if_neg c, if_pos trivial]
   by_cases c2 : d < 0
   ·rw [if_pos c2]
   ·rw [if_neg c2]
    obtain ⟨a1, an, hid, hu⟩ := h (by omega)
    have := U.zero at_ (by omega) an (by omega)
    rw [this]
    simp
theorem walks_j4 (R : Right n s t l) (F : IsFlow n s t l f) (hup : Ev (fun k => level_Levels.f k n s t l f 1) (up, 0)) (U : IsUp n s l (roomOf l f) 1 up) (hl : l.length ≤ 24) (hn9 : n ≤ 9) {at_ many : Int} (hu0 : 0 ≤ rd up at_) (hum : rd up at_ ≤ many) :
  Ev (fun k => r7_LevelWalks.j4 k f (rd up t) at_ many n s t l) true := by
 have hlead := leads_ev R F hup U
 have L1 := walks_l1 R U hl hn9 (d := rd up t) rfl (rd up t).toNat 0 t (by omega) (by omega) (fun h => ⟨R.t1, R.tn, by omega, by omega⟩)
 have J5 : Ev (fun k => r7_LevelWalks.j5 k f (rd up t) false n s t l) true := by
  refine Ev.step (f := ?g) (fun k => ?h) ?e
  case h =>
   simp only [r7_LevelWalks.j5]
   rw [if_neg (by simp)]
  case e => exact Ev.bind hlead L1
 refine Ev.step (fun k => ?_) J5
 simp only [r7_LevelWalks.j4]
 by_cases c : at_ = t
 ·subst c
  rw [if_pos rfl, if_neg (by omega), decide_eq_false (by omega)]
 ·rw [if_neg c]
theorem pos_one {y : Int} (h : y > 0) : 1 ≤ y := by omega
theorem walks_l0 (R : Right n s t l) (F : IsFlow n s t l f) (hcap : ∀ a ∈ l, a.f2 < 1000000000000) (hup : Ev (fun k => level_Levels.f k n s t l f 1) (up, 0)) (U : IsUp n s l (roomOf l f) 1 up) (hl : l.length ≤ 24) (hn9 : n ≤ 9) {steps : List Int} (hst : ∀ x ∈ steps, (Lit.int .i64 x).wf = true) (h60 : steps.length ≤ 60) (e : Nat) :
  ∀ (i : Nat) (at_ many : Int), i + e = steps.length → 1 ≤ at_ → at_ ≤ n → 0 ≤ rd up at_ → rd up at_ ≤ many → many ≤ i →
  Ev (fun k => r7_LevelWalks.l0 k steps f (roomOf l f) (rd up t) at_ many (i : Int) n s t l) true := by
 have hrl : (roomOf l f).length = 2 * l.length := roomOf_len F.1.len
 induction e with
 | zero =>
  intro i at_ many hi a1 an hu0 hum hmi
  refine Ev.step (f := fun k => r7_LevelWalks.j3 k steps f (roomOf l f) (rd up t) at_ many (i : Int) false n s t l) (fun k => ?_) (Ev.step (fun k => ?_) (walks_j4 R F hup U hl hn9 hu0 hum))
  ·simp only [r7_LevelWalks.l0]
   rw [if_neg (by omega)]
  ·simp only [r7_LevelWalks.j3]
   rw [if_neg (by simp)]
 | succ e ih =>
  intro i at_ many hi a1 an hu0 hum hmi
  have hi2 : i + 1 + e = steps.length := by omega
  have hm2 : many + 1 ≤ ((i + 1 : Nat) : Int) := by omega
  have hm3 : many ≤ ((i + 1 : Nat) : Int) := by omega
  have hi0 : (0 : Int) ≤ (i : Int) := by omega
  have hi3 : (i : Int) < (steps.length : Int) := by omega
  have hwm : wrap64 (many + 1) = many + 1 := wrap_id (by omega) (by omega)
  have hrx : ∀ x : Int, x < ((2 * l.length : Nat) : Int) → x < ((roomOf l f).length : Int) := fun x hx => by rw [hrl]; exact hx
  have hw : wrap64 ((i : Int) + 1) = ((i + 1 : Nat) : Int) := wrap_succ (by omega)
  have hrz : ∀ x : Int, x < ((2 * l.length : Nat) : Int) → x < 2 * (l.length : Int) := fun x hx => by omega
  refine Ev.step (f := fun k => r7_LevelWalks.j3 k steps f (roomOf l f) (rd up t) at_ many (i : Int) (at_ != t) n s t l) (fun k => ?_) ?_
  ·simp only [r7_LevelWalks.l0]
   rw [if_pos (by omega)]
  by_cases c : at_ = t
  ·refine Ev.step (fun k => ?_) (walks_j4 R F hup U hl hn9 hu0 hum)
   simp only [r7_LevelWalks.j3]
   rw [if_neg (by simp [c])]
  ·refine Ev.step (f := ?g) (fun k => ?h) ?e
   case h =>
    simp only [r7_LevelWalks.j3]
    rw [if_pos (by simp [c])]
   case e =>
    refine Ev.bind (tracks_ev (n := n) (s := s) (t := t) (v := at_) R.len) ?_
    obtain ⟨T, hT⟩ : ∃ T, tr l at_ (2 * l.length) = T := ⟨_, rfl⟩
    have hTl := tr_len (l := l) (v := at_) (2 * l.length)
    rw [hT] at hTl ⊢
    by_cases c0 : (T.length : Int) = 0
    ·refine Ev.congr (fun k => ?_) (walks_j4 R F hup U hl hn9 hu0 hum)
     rw [if_pos c0]
    ·have hi' : i < steps.length := by omega
     obtain ⟨b0, b1⟩ := wf_bounds (hst steps[i] (List.getElem_mem hi'))
     have hp := pk_range (c := steps[i]) (n := (T.length : Int)) (by omega)
     obtain ⟨p, hpp⟩ : ∃ p, pk steps[i] (T.length : Int) = p := ⟨_, rfl⟩
     rw [hpp] at hp
     have hmem := rd_mem (F := T) hp.1 hp.2
     rw [← hT] at hmem
     obtain ⟨r0, r1, hfr⟩ := tr_mem hmem
     rw [hT] at r0 r1 hfr
     have hr : InR l (rd T p) := ⟨r0, hrz _ r1⟩
     obtain ⟨f1, fn, t1, tn⟩ := ends_range R.arcs hr
     have hpick : r7_pick.f (rd steps (i : Int)) (T.length : Int) = some p := by rw [rd_get hi', pick_eq b0 b1 (by omega), hpp]
     have hrt : rd T p < ((roomOf l f).length : Int) := hrx _ r1
     by_cases c1 : rd (roomOf l f) (rd T p) > 0
     ·have hs := U.step (rd T p) hr (pos_one c1) (by rw [hfr]; exact hu0)
      rw [hfr] at hs
      have hgo := ih (i + 1) (toOf l (rd T p)) (many + 1) hi2 t1 tn hs.1 (Int.le_trans hs.2 (Int.add_le_add_right hum 1)) hm2
      have hE : Ev (fun k => (residual_Ends.f k n s t l (rd T p)).bind (fun bt => r7_LevelWalks.l0 k steps f (roomOf l f) (rd up t) bt.2 (many + 1) ((i + 1 : Nat) : Int) n s t l)) true := by
       refine Ev.bind (ends_ev (n := n) (s := s) (t := t) hr R.len) ?_
       exact hgo
      refine Ev.congr (fun k => ?_) hE
      rw [if_neg c0, if_pos hi0, if_pos hi3, hpick]
      simp only [Option.bind_some]
      rw [if_pos hp.1, if_pos hp.2, if_pos r0, if_pos hrt, if_pos c1, hwm, hw]
     ·have hgo := ih (i + 1) at_ many hi2 a1 an hu0 hum hm3
      refine Ev.congr (fun k => ?_) hgo
      rw [if_neg c0, if_pos hi0, if_pos hi3, hpick]
      simp only [Option.bind_some]
      rw [if_pos hp.1, if_pos hp.2, if_pos r0, if_pos hrt, if_neg c1, hw]
end
theorem LevelWalks : r7_LevelWalks.Pure := by
 intro a0 a1 l2 l3 l4 w0 w1 m2 w2 m3 y3 w3 m4 y4 w4
 obtain ⟨n, s, t, l, hmade, n2, n9, R, hl, _, hcap⟩ := made_ev w0 w1 w2
 have hcap2 : ∀ a ∈ l, a.f2 < 1000000000000 := fun a ha => by have := hcap a ha; omega
 obtain ⟨f, F, _, hrout⟩ := routed_ev R hcap2 w3
 obtain ⟨up, hup, U⟩ := levels_ev R F (least := 1) (by decide)
 have hdeep := deep_ev R hup U
 have h1 := R.t1
 have h2 := R.tn
 have h3 := U.len
 refine Ev.rounds ?_
 unfold r7_LevelWalks.f
 refine Ev.bind shown7_ev ?_
 simp only [if_true]
 by_cases c : (l4.length : Int) > 60
 ·refine Ev.step (f := fun _ => some true) (fun k => ?_) (Ev.now true)
  simp only [r7_LevelWalks.j0]
  rw [if_pos (decide_eq_true c)]
 ·have L0 := walks_l0 R F hcap2 hup U hl n9 w4 (by omega) l4.length 0 s 0 (by omega) R.s1 R.sn (by rw [U.src]; decide) (by rw [U.src]; decide) (by omega)
  have J1 : Ev (fun k => r7_LevelWalks.j1 k l4 f (roomOf l f) (rd up t) (rd up t != rd up t) n s t l) true := by
   refine Ev.step (fun k => ?_) L0
   simp only [r7_LevelWalks.j1]
   rw [if_neg (by simp)]
   rfl
  refine Ev.step (f := ?g) (fun k => ?h) ?e
  case h =>
   simp only [r7_LevelWalks.j0]
   rw [if_neg (by simpa using c)]
  case e =>
   refine Ev.bind hmade (Ev.bind hrout (Ev.bind (room_ev R F) (Ev.bind hdeep (Ev.bind hup ?_))))
   refine Ev.congr (fun k => ?_) J1
   simp only [if_true]
   rw [if_pos (by omega), if_pos (by omega)]
end Go.Proofs.Ytbppeffcikphcaa.Pure
