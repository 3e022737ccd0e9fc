/- Plain lists and numbers, for the law ResidualPushes: no program and no memory. -/
import Derived.Test.YtbppeffcikphcaaPResidualPushesx0
import Derived.Test.YtbppeffcikphcaaPResidualPushesx6
import Derived.Test.YtbppeffcikphcaaPResidualPushesx15
import Derived.Test.YtbppeffcikphcaaPResidualPushesx16
import Derived.Test.YtbppeffcikphcaaPResidualPushesx18
import Derived.Test.YtbppeffcikphcaaMResidualPushesAll
set_option linter.unusedVariables false
namespace Go.Proofs.Ytbppeffcikphcaa.Pure
open Go.RowKit Go.Proofs.Ytbppeffcikphcaa.PResidualPushes Go.Proofs.YtbppeffcikphcaaW.PrintWords Go.Proofs.YtbppeffcikphcaaW.PrintLast
def flip (r : Int) : Int := if r % 2 = 1 then r - 1 else r + 1
theorem xor_small : ∀ i : Fin 48, Go.bits .xor .i64 (i.val : Int) 1 = flip (i.val : Int) := by decide +kernel
theorem xor_flip {r : Int} (h0 : 0 ≤ r) (h1 : r < 48) : Go.bits .xor .i64 r 1 = flip r := by
 have := xor_small ⟨r.toNat, by omega⟩
 simp only at this
 rwa [show ((r.toNat : Nat) : Int) = r by omega] at this
theorem flip_half {r : Int} (h0 : 0 ≤ r) : flip r / 2 = r / 2 ∧ 0 ≤ flip r := by unfold flip; split <;> omega
theorem flip_inr {l : List S49} {r : Int} (h : InR l r) : InR l (flip r) := by unfold InR flip at *; split <;> omega
theorem flip_ends {l : List S49} {r : Int} (h0 : 0 ≤ r) : fromOf l (flip r) = toOf l r ∧ toOf l (flip r) = fromOf l r := by
 have h := (flip_half h0).1
 unfold fromOf toOf
 rw [h]
 by_cases c : r % 2 = 1
 ·have : ¬ flip r % 2 = 1 := by unfold flip; rw [if_pos c]; omega
  simp [c, this]
 ·have : flip r % 2 = 1 := by unfold flip; rw [if_neg c]; omega
  simp [c, this]
theorem flip_rm {r m : Int} : rm (flip r) m = - rm r m := by
 unfold rm
 by_cases c : r % 2 = 1
 ·have : ¬ flip r % 2 = 1 := by unfold flip; rw [if_pos c]; omega
  rw [if_pos c, if_neg this]; omega
 ·have : flip r % 2 = 1 := by unfold flip; rw [if_neg c]; omega
  rw [if_neg c, if_pos this]
def backOf (w : List Int) : List Int := (w.map flip).reverse
theorem RPath.app {l : List S49} : ∀ {w : List Int} {u v r : Int}, RPath l u w v → fromOf l r = v → RPath l u (w ++ [r]) (toOf l r) := RPath.snoc
theorem back_path {l : List S49} : ∀ {w : List Int} {u v : Int}, (∀ r ∈ w, 0 ≤ r) → RPath l u w v → RPath l v (backOf w) u
 | [], u, v, _, h => h.symm
 | r :: w, u, v, hp, h => by
  have h2 := back_path (fun q hq => hp q (List.mem_cons_of_mem _ hq)) h.2
  obtain ⟨e0, e1⟩ := flip_ends (l := l) (hp r List.mem_cons_self)
  have h3 := h2.snoc e0
  rw [e1, h.1] at h3
  simpa [backOf] using h3
theorem dm_app (m i : Int) : ∀ a b : List Int, dm m i (a ++ b) = dm m i a + dm m i b
 | [], b => by simp [dm]
 | r :: a, b => by
  simp only [List.cons_append, dm, dm_app m i a b]; omega
theorem dm_back {m i : Int} : ∀ {w : List Int}, (∀ r ∈ w, 0 ≤ r) → dm m i (backOf w) = - dm m i w
 | [], _ => rfl
 | r :: w, h => by
  have h2 := dm_back (m := m) (i := i) (fun q hq => h q (List.mem_cons_of_mem _ hq))
  have e : backOf (r :: w) = backOf w ++ [flip r] := by simp [backOf]
  rw [e, dm_app, h2]
  simp only [dm, (flip_half (h r List.mem_cons_self)).1, flip_rm]
  split <;> omega
theorem back_mem {w : List Int} {r : Int} (h : r ∈ backOf w) : ∃ q ∈ w, r = flip q := by
 simp only [backOf, List.mem_reverse, List.mem_map] at h
 obtain ⟨q, hq, e⟩ := h
 exact ⟨q, hq, e.symm⟩
theorem back_nodup {w : List Int} (h : ∀ r ∈ w, 0 ≤ r) (hn : (w.map (· / 2)).Nodup) : ((backOf w).map (· / 2)).Nodup := by
 have e : (backOf w).map (· / 2) = (w.map (· / 2)).reverse := by
  simp only [backOf, List.map_reverse, List.map_map]
  congr 1
  exact List.map_congr_left (fun r hr => (flip_half (h r hr)).1)
 rw [e]
 exact List.pairwise_reverse.2 (hn.imp (fun h e => h e.symm))
/-- The room of a track. -/
def roomAt (l : List S49) (f : List Int) (r : Int) : Int := if r % 2 = 1 then rd f (r / 2) else (rd_T49 l (r / 2)).f2 - rd f (r / 2)
theorem roomAt_rd {l : List S49} {f : List Int} (W : Within l f) (hcap : ∀ a ∈ l, a.f2 < 1000000000000) {r : Int} (h : InR l r) : rd (roomOf l f) r = roomAt l f r := by
 obtain ⟨h0, h1⟩ := h
 obtain ⟨a, b⟩ := roomOf_rd W hcap (i := r / 2) (by omega) (by omega)
 unfold roomAt
 by_cases c : r % 2 = 1
 ·rw [if_pos c, ← b, show 2 * (r / 2) + 1 = r by omega]
 ·rw [if_neg c, ← a, show 2 * (r / 2) = r by omega]
theorem fits_iff {l : List S49} {f w : List Int} {m : Int} (W : Within l f) (hw : ∀ r ∈ w, InR l r) (hm : 0 ≤ m) : Fits l f m w ↔ ∀ r ∈ w, m ≤ roomAt l f r := by
 have z : ∀ r ∈ w, (0 ≤ rd f (r / 2) + rm r m ∧ rd f (r / 2) + rm r m ≤ (rd_T49 l (r / 2)).f2) ↔ m ≤ roomAt l f r := fun r hr => by
  have q := hw r hr
  unfold InR at q
  have x := within_rd W (i := r / 2) (by omega) (by omega)
  unfold rm roomAt
  split <;> omega
 exact ⟨fun h r hr => (z r hr).1 (h r hr), fun h r hr => (z r hr).2 (h r hr)⟩
structure Most (l : List S49) (f w : List Int) (m : Int) : Prop where
 pos : 1 ≤ m
 top : m ≤ 1099511627776
 le : ∀ r ∈ w, m ≤ roomAt l f r
 is : w ≠ [] → ∃ r ∈ w, roomAt l f r = m
 none : w = [] → m = 1099511627776
theorem Most.move {l : List S49} {f w : List Int} {m r : Int} (M : Most l f w m) (hcap : roomAt l f r < 1000000000000) (h1 : 1 ≤ roomAt l f r) : Most l f (w ++ [r]) (mn m (roomAt l f r)) := by
 have hp := M.pos
 have ht := M.top
 have hm : (mn m (roomAt l f r) = m ∧ m ≤ roomAt l f r) ∨ (mn m (roomAt l f r) = roomAt l f r ∧ roomAt l f r ≤ m) := by unfold mn; split <;> omega
 refine ⟨by omega, by omega, fun q hq => ?_, fun _ => ?_, fun h => absurd h (by simp)⟩
 ·rcases List.mem_append.1 hq with hq | hq
  ·have := M.le q hq; omega
  ·obtain rfl := List.mem_singleton.1 hq
   omega
 ·rcases hm with ⟨e, e2⟩ | ⟨e, e2⟩
  ·by_cases c : w = []
   ·have := M.none c
    omega
   ·obtain ⟨q, hq, h⟩ := M.is c
    exact ⟨q, List.mem_append_left _ hq, by rw [e]; exact h⟩
  ·exact ⟨r, by simp, e.symm⟩
theorem back_push {l : List S49} {f w : List Int} {m : Int} (hlen : f.length = l.length) (hw : ∀ r ∈ w, InR l r) : rpush (rpush f m w) m (backOf w) = f := by
 have hin : ∀ r ∈ w, 0 ≤ r ∧ r < 2 * (f.length : Int) := fun r hr => by have := hw r hr; unfold InR at this; omega
 have hb : ∀ r ∈ backOf w, 0 ≤ r ∧ r < 2 * ((rpush f m w).length : Int) := fun r hr => by
  obtain ⟨q, hq, rfl⟩ := back_mem hr
  have := flip_inr (hw q hq)
  unfold InR at this
  rw [rpush_length]; omega
 refine rd_ext (by rw [rpush_length, rpush_length]) (fun i hi => ?_)
 rw [rpush_rd hb i hi, rpush_rd hin i hi, dm_back (fun r hr => (hw r hr).1)]; omega
theorem flow_back {n s t : Int} {l : List S49} {f : List Int} (F : IsFlow n s t l f) : IsFlow n t s l f := ⟨F.within, fun v h1 h2 h3 h4 => F.cons v h1 h2 h4 h3⟩
theorem right_back {n s t : Int} {l : List S49} (R : Right n s t l) : Right n t s l := ⟨R.n2, R.n500, R.t1, R.tn, R.s1, R.sn, fun e => R.ne e.symm, R.len, R.arcs, R.sum⟩
theorem back_loop {n s t m : Int} {l : List S49} {f w : List Int} (R : Right n s t l) (F : IsFlow n s t l f) (hw : ∀ r ∈ w, InR l r) (hl : l.length ≤ 24) (hwl : w.length ≤ 1000000) (hp : RPath l s w t) (hn : (w.map (· / 2)).Nodup) (hcap : ∀ a ∈ l, a.f2 < 1000000000000)
  (hm : 1 ≤ m) (hm2 : m ≤ 1099511627776) (hf : Fits l f m w) : ∀ j : Nat, j ≤ w.length →
   Ev (fun k => racewaylaw6_ResidualPushes.l1 k f m w (rpush f m w) ((w.drop j).map flip).reverse ((j : Int) - 1) n t s l) true := by
 intro j
 have hlen := F.within.len
 have hl2 := R.len
 have hin : ∀ r ∈ w, 0 ≤ r ∧ r < 2 * (f.length : Int) := fun r hr => by have := hw r hr; unfold InR at this; omega
 induction j with
 | zero =>
  intro _
  have G := flow_back (rpush_flow F hp hw hn hf)
  have hbw : ∀ r ∈ backOf w, InR l r := fun r hr => by
   obtain ⟨q, hq, rfl⟩ := back_mem hr
   exact flip_inr (hw q hq)
  have hfit : Fits l (rpush f m w) m (backOf w) := fun r hr => by
   obtain ⟨q, hq, rfl⟩ := back_mem hr
   have h0 := (hw q hq).1
   have h1 := (hw q hq).2
   rw [(flip_half h0).1, flip_rm, rpush_rd hin (q / 2) (by omega), dm_in hn q hq]
   have := within_rd F.within (i := q / 2) (by omega) (by omega)
   omega
  have hps := ((push_both (m := m) (right_back R) G hbw (by simpa [backOf] using hwl) (back_path (fun r hr => (hw r hr).1) hp) (back_nodup (fun r hr => (hw r hr).1) hn) hm (by omega) hcap).1) hfit
  rw [back_push hlen hw] at hps
  have hs := same_ev f f (by omega)
  rw [decide_eq_true rfl] at hs
  refine Ev.step (f := fun k => (residual_Push.f k n t s l (rpush f m w) (backOf w) m).bind fun bt => if bt.2 = 0 then ((racewayref5_Same.f k bt.1 f).bind fun t => some t) else some false) (fun k => ?_) ?_
  ·simp only [racewaylaw6_ResidualPushes.l1]
   rw [if_neg (by omega)]
   rfl
  ·refine Ev.bind hps ?_
   simp only [if_true]
   exact Ev.bind hs (Ev.now true)
 | succ j ih =>
  intro hj
  have hjw : j < w.length := by omega
  have hr := hw _ (List.getElem_mem hjw)
  have hr0 := hr.1
  have hr1 := hr.2
  refine Ev.step (fun k => ?_) (ih (by omega))
  simp only [racewaylaw6_ResidualPushes.l1]
  rw [show ((j + 1 : Nat) : Int) - 1 = (j : Int) by omega, if_pos (by omega), if_pos (by omega), if_pos (by omega), if_pos (by simp; omega), rd_get hjw, xor_flip hr0 (by omega), wrap_id (x := (j : Int) - 1) (by omega) (by omega)]
  have e : ((w.drop j).map flip).reverse = ((w.drop (j + 1)).map flip).reverse ++ [flip w[j]] := by
   rw [List.drop_eq_getElem_cons hjw, List.map_cons, List.reverse_cons]
  rw [e]
theorem tail_pushes {n s t v m : Int} {l : List S49} {f w : List Int} (R : Right n s t l) (F : IsFlow n s t l f) (hw : ∀ r ∈ w, InR l r) (hl : l.length ≤ 24) (hwl : w.length ≤ 1000000) (hp : RPath l s w v) (hn : (w.map (· / 2)).Nodup) (hcap : ∀ a ∈ l, a.f2 < 1000000000000)
  (M : Most l f w m) : Ev (fun k => racewaylaw6_ResidualPushes.j4 k f v m w n s t l) true := by
 have hm := M.pos
 have hm2 := M.top
 by_cases hv : v = t
 ·subst hv
  have hne : w ≠ [] := fun e => by rw [e] at hp; exact R.ne hp
  have hf : Fits l f m w := (fits_iff F.within hw (by omega)).2 M.le
  have hnf : ¬ Fits l f (m + 1) w := fun h => by
   obtain ⟨r, hr, e⟩ := M.is hne
   have := (fits_iff F.within hw (by omega)).1 h r hr
   omega
  have G := rpush_flow F hp hw hn hf
  have ha := ((push_both (m := m) R F hw hwl hp hn hm (by omega) hcap).1) hf
  have hb := ((push_both (m := m + 1) R F hw hwl hp hn (by omega) (by omega) hcap).2) hnf
  have hv1 := value_flow R F
  have hv2 := value_flow R G
  rw [rpush_exc hp F.within.len hw, if_pos rfl, if_neg R.ne] at hv2
  have hb1 := exc_bound (l := l) (fun x hx => F.within.nonneg x hx) v
  have hb2 := F.within.sum
  have hb3 := R.sum
  refine Ev.step (f := ?g) (fun k => ?h) ?e
  case h =>
   simp only [racewaylaw6_ResidualPushes.j4, if_true] <;> exact rfl
  case e =>
   refine Ev.bind ha (Ev.bind hv1 (Ev.bind hv2 ?_))
   have e1 : wrap64 (m + 1) = m + 1 := wrap_id (by omega) (by omega)
   have e2 : exc l f v + (m - 0) = wrap64 (exc l f v + m) := by rw [wrap_id (by omega) (by omega)]; omega
   simp only [e1]
   refine Ev.bind hb ?_
   simp only [if_true, if_pos e2]
   have := back_loop (m := m) R F hw hl hwl hp hn hcap hm hm2 hf w.length (Nat.le_refl _)
   refine Ev.step (fun k => ?_) this
   simp only [racewaylaw6_ResidualPushes.j5]
   rw [if_neg (by simp)]
   clear e1 e2
   rw [wrap_id (x := (w.length : Int) - 1) (by omega) (by omega), List.drop_length]
   rfl
 ·refine Ev.step (f := fun k => (residual_Push.f k n s t l f w 1).bind fun bt => some (bt.2 == 1)) (fun k => ?_) (Ev.bind (push_arg R F hw hwl hp hv) (Ev.now true))
  simp only [racewaylaw6_ResidualPushes.j4]
  rw [if_neg hv]
theorem pushes_loop {n s t : Int} {l : List S49} {f steps : List Int} (R : Right n s t l) (F : IsFlow n s t l f) (hl : l.length ≤ 24) (hn : n ≤ 9) (hcap : ∀ a ∈ l, a.f2 < 1000000000000) (hst : ∀ x ∈ steps, (Lit.int .i64 x).wf = true) (hsl : steps.length ≤ 1000)
  (d : Nat) : ∀ (i : Nat) (met : List Bool) (at_ m : Int) (w : List Int), i + d = steps.length → w.length ≤ i → Making n s l met at_ w → Most l f w m →
   Ev (fun k => racewaylaw6_ResidualPushes.l0 k steps f (roomOf l f) met at_ m w (i : Int) n s t l) true := by
 have hlen := F.within.len
 have hrl := roomOf_len hlen
 induction d with
 | zero =>
  intro i met at_ m w hi hwl M MM
  refine Ev.step (fun k => ?_) (Ev.step (fun k => ?_) (tail_pushes R F M.inr hl (by omega) M.path M.nodup hcap MM)) (f := fun k => racewaylaw6_ResidualPushes.j3 k steps f (roomOf l f) met at_ m w (i : Int) false n s t l)
  ·simp only [racewaylaw6_ResidualPushes.l0]
   rw [if_neg (by omega)]
  ·simp only [racewaylaw6_ResidualPushes.j3]
   rw [if_neg (by decide)]
 | succ d ih =>
  intro i met at_ m w hi hwl M MM
  have his : i < steps.length := by omega
  have T3 : Ev (fun k => racewaylaw6_ResidualPushes.j4 k f at_ m w n s t l) true := tail_pushes R F M.inr hl (by omega) M.path M.nodup hcap MM
  refine Ev.step (f := fun k => racewaylaw6_ResidualPushes.j3 k steps f (roomOf l f) met at_ m w (i : Int) (at_ != t) n s t l) (fun k => ?_) ?_
  ·simp only [racewaylaw6_ResidualPushes.l0]
   rw [if_pos (by omega)]
  by_cases hat : at_ = t
  ·refine Ev.step (fun k => ?_) T3
   simp only [racewaylaw6_ResidualPushes.j3]
   rw [if_neg (by simp [hat])]
  ·have h1 := M.a1
   have h2 := M.an
   have h3 := M.len
   obtain ⟨T, hT, hTl, hTm⟩ := from_ev (n := n) (s := s) (t := t) (v := at_) R.len
   obtain ⟨x0, x1⟩ := wf_bounds (hst _ (List.getElem_mem his))
   refine Ev.step (f := ?g2) (fun k => ?h2) ?e2
   case h2 =>
    simp only [racewaylaw6_ResidualPushes.j3]
    rw [if_pos (by simp [hat]), if_pos (by omega), if_pos (by omega)]
   case e2 =>
    simp only [Option.bind_some]
    refine Ev.bind hT ?_
    by_cases hT0 : (T.length : Int) = 0
    ·simp only [if_pos hT0]
     exact T3
    ·have hpos : (0 : Int) < (T.length : Int) := by omega
     obtain ⟨p0, p1⟩ := pk_range (c := steps[i]) hpos
     obtain ⟨hr, hf⟩ := hTm _ (rd_mem p0 p1)
     have hi0 : (0 : Int) ≤ (i : Int) := by omega
     have hi1 : (i : Int) < (steps.length : Int) := by omega
     simp only [if_neg hT0, if_pos hi0, if_pos hi1, rd_get his, pick_eq x0 x1 hpos, Option.bind_some, if_pos p0, if_pos p1]
     obtain ⟨r, hrd⟩ : ∃ r, rd T (pk steps[i] (T.length : Int)) = r := ⟨_, rfl⟩
     rw [hrd] at hr hf ⊢
     obtain ⟨k0, k1, k2, k3⟩ := ends_range R.arcs hr
     have hto1 : toOf l r < (met.length : Int) := by omega
     have hto0 : 0 ≤ toOf l r := by omega
     refine Ev.bind (ends_ev hr R.len) ?_
     simp only [if_pos hto0, if_pos hto1]
     have hwl2 : w.length < 17592186044416 := by omega
     by_cases c : rdOf false (met.set at_.toNat true) (toOf l r) = true
     ·simp only [if_pos c]
      refine Ev.congr (fun k => ?_) (ih (i + 1) _ at_ m w (by omega) (by omega) (M.stay R.arcs) MM)
      rw [wrap_succ (by omega)]
     ·have q0 := hr.1
      have q1 := hr.2
      have hr1 : r < ((roomOf l f).length : Int) := by omega
      simp only [if_neg c, if_pos q0, if_pos hr1, roomAt_rd F.within hcap hr]
      by_cases c2 : roomAt l f r = 0
      ·simp only [if_pos c2]
       refine Ev.congr (fun k => ?_) (ih (i + 1) _ at_ m w (by omega) (by omega) (M.stay R.arcs) MM)
       rw [wrap_succ (by omega)]
      ·have hb := within_rd F.within (i := r / 2) (by omega) (by omega)
       have hc := hcap _ (rdT_mem (l := l) (i := r / 2) (by omega) (by omega))
       have hra : 1 ≤ roomAt l f r ∧ roomAt l f r < 1000000000000 := by
        unfold roomAt at c2 ⊢
        split at c2 <;> rename_i c3
        ·rw [if_pos c3]; omega
        ·rw [if_neg c3]; omega
       simp only [if_neg c2, if_pos hwl2]
       refine Ev.congr (fun k => ?_) (ih (i + 1) _ _ (mn m (roomAt l f r)) (w ++ [r]) (by omega) (by simp; omega) (M.move R.arcs hr hf c) (MM.move hra.2 hra.1))
       rw [wrap_succ (by omega)]
theorem ResidualPushes : racewaylaw6_ResidualPushes.Pure := by
 intro a0 a1 l2 l3 l4 w0 w1 m2 w2 m3 y3 w3 m4 y4 w4
 obtain ⟨n, s, t, l, hmade, n2, n9, R, hl, _, hcap⟩ := made_ev w0 w1 w2
 have hcap' : ∀ a ∈ l, a.f2 < 1000000000000 := fun a ha => by have := hcap a ha; omega
 obtain ⟨f, F, _, hrout⟩ := routed_ev (raws := l3) R hcap' w3
 have hrl := roomOf_len F.within.len
 refine Ev.rounds ?_
 unfold racewaylaw6_ResidualPushes.f
 refine Ev.bind shown_ev ?_
 simp only [if_true]
 by_cases c : (l4.length : Int) > 60
 ·refine Ev.step (f := fun _ => some true) (fun k => ?_) (Ev.now true)
  simp only [racewaylaw6_ResidualPushes.j0]
  rw [if_pos (decide_eq_true c)]
 ·refine Ev.step (f := ?g3) (fun k => ?h3) ?e3
  case h3 =>
   simp only [racewaylaw6_ResidualPushes.j0]
   rw [if_neg (by simpa using c)]
  case e3 =>
   refine Ev.bind hmade (Ev.bind hrout (Ev.bind (room_ev R F) ?_))
   simp only [if_true]
   have := pushes_loop R F hl n9 hcap' w4 (by omega) l4.length 0 _ s 1099511627776 [] (by omega) (by simp) (Making.start R) ⟨by decide, by decide, fun r hr => absurd hr (by simp), fun h => absurd rfl h, fun _ => rfl⟩
   refine Ev.step (fun k => ?_) this
   simp only [racewaylaw6_ResidualPushes.j1]
   rw [wrap_id (x := 2 * (l.length : Int)) (by omega) (by omega), if_neg (by simp; omega), wrap_id (x := n + 1) (by omega) (by omega), if_pos (by omega), if_pos (by omega)]
   rfl
end Go.Proofs.Ytbppeffcikphcaa.Pure
