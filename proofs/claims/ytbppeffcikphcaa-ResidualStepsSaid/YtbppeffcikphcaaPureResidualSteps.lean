/- Plain lists and numbers, for the law ResidualSteps: no program and no memory. -/
import Derived.Test.YtbppeffcikphcaaPResidualStepsx0
import Derived.Test.YtbppeffcikphcaaPResidualStepsx15
import Derived.Test.YtbppeffcikphcaaPResidualStepsx16
import Derived.Test.YtbppeffcikphcaaPResidualStepsx17
import Derived.Test.YtbppeffcikphcaaMResidualStepsBase
import Derived.Test.YtbppeffcikphcaaMResidualStepsPick
import Derived.Test.YtbppeffcikphcaaMResidualStepsMade
import Derived.Test.YtbppeffcikphcaaMResidualStepsFlowmath
import Derived.Test.YtbppeffcikphcaaMResidualStepsFlowfun
import Derived.Test.YtbppeffcikphcaaMResidualStepsWalk
import Derived.Test.YtbppeffcikphcaaMResidualStepsRouted
import Derived.Test.YtbppeffcikphcaaMResidualStepsSame
import Derived.Test.YtbppeffcikphcaaMResidualStepsResid
import Derived.Test.YtbppeffcikphcaaMResidualStepsShown6
import Derived.Test.YtbppeffcikphcaaMResidualStepsRsteps
set_option linter.unusedVariables false
namespace Go.Proofs.Ytbppeffcikphcaa.Pure
open Go.RowKit Go.Proofs.Ytbppeffcikphcaa.PResidualSteps Go.Proofs.YtbppeffcikphcaaW.PrintWords Go.Proofs.YtbppeffcikphcaaW.PrintLast
theorem fits_between {l : List S49} {f w : List Int} {a b : Int} (W : Within l f) (hw : ∀ r ∈ w, InR l r) (h : Fits l f b w) (h0 : 0 ≤ a) (h1 : a ≤ b) : Fits l f a w := fun r hr => by
  have q := hw r hr
  unfold InR at q
  have x := within_rd W (i := r / 2) (by omega) (by omega)
  have y := h r hr
  unfold rm at y ⊢
  split at y <;> rename_i c
  · rw [if_pos c]; omega
  · rw [if_neg c]; omega
theorem fits_next {l : List S49} {f w : List Int} {a b : Int} (W : Within l f) (hw : ∀ r ∈ w, InR l r) (hn : (w.map (· / 2)).Nodup) : Fits l (rpush f a w) b w ↔ Fits l f (a + b) w := by
  have hlen := W.len
  have z : ∀ r ∈ w, rd (rpush f a w) (r / 2) + rm r b = rd f (r / 2) + rm r (a + b) := fun r hr => by
    have q := hw r hr
    unfold InR at q
    rw [rpush_rd (fun r hr => by have := hw r hr; unfold InR at this; omega) (r / 2) (by omega), dm_in hn r hr, rm_add]; omega
  exact ⟨fun h r hr => by rw [← z r hr]; exact h r hr, fun h r hr => by rw [z r hr]; exact h r hr⟩
theorem again_loop {n s t e : Int} {m : Nat} {l : List S49} {f w once : List Int} (R : Right n s t l) (F : IsFlow n s t l f) (hw : ∀ r ∈ w, InR l r) (hwl : w.length ≤ 1000000) (hp : RPath l s w t) (hn : (w.map (· / 2)).Nodup)
    (hm2 : m ≤ 1000) (hcap : ∀ a ∈ l, a.f2 < 1000000000000) (hE : (Fits l f (m : Int) w ∧ once = rpush f (m : Int) w ∧ e = 0) ∨ (¬ Fits l f (m : Int) w ∧ e = 9)) (d : Nat) :
    ∀ i : Nat, i + d = m → Fits l f (i : Int) w → Ev (fun k => racewaylaw6_ResidualSteps.l1 k w (m : Int) once e (rpush f (i : Int) w) 0 (i : Int) n s t l) true := by
  have hlen := F.within.len
  have hin : ∀ r ∈ w, 0 ≤ r ∧ r < 2 * (f.length : Int) := fun r hr => by have := hw r hr; unfold InR at this; omega
  induction d with
  | zero =>
    intro i hi hf
    obtain rfl : i = m := by omega
    rcases hE with ⟨_, rfl, rfl⟩ | ⟨h, _⟩
    · have hs := same_ev (rpush f (i : Int) w) (rpush f (i : Int) w) (by rw [rpush_length, hlen]; have := R.len; omega)
      rw [decide_eq_true rfl] at hs
      refine Ev.step (f := fun k => racewaylaw6_ResidualSteps.j5 k w (i : Int) (rpush f (i : Int) w) 0 (rpush f (i : Int) w) 0 (i : Int) false n s t l) (fun k => ?_) (Ev.step (f := fun k => (racewayref5_Same.f k (rpush f (i : Int) w) (rpush f (i : Int) w)).bind fun t => some t) (fun k => ?_) (Ev.bind hs (Ev.now true)))
      · simp only [racewaylaw6_ResidualSteps.l1]
        rw [if_neg (by omega)]
      · simp [racewaylaw6_ResidualSteps.j5]
    · exact absurd hf h
  | succ d ih =>
    intro i hi hf
    have F' := rpush_flow F hp hw hn hf
    obtain ⟨yes, no⟩ := push_both (m := 1) R F' hw hwl hp hn (by omega) (by omega) hcap
    rw [fits_next F.within hw hn, rpush_add hin] at yes
    rw [fits_next F.within hw hn] at no
    refine Ev.step (f := fun k => racewaylaw6_ResidualSteps.j5 k w (m : Int) once e (rpush f (i : Int) w) 0 (i : Int) true n s t l) (fun k => ?_) ?_
    · simp only [racewaylaw6_ResidualSteps.l1]
      rw [if_pos (by omega)]
      rfl
    refine Ev.step (f := fun k => (residual_Push.f k n s t l (rpush f (i : Int) w) w 1).bind fun bt => if bt.2 = 0 then racewaylaw6_ResidualSteps.l1 k w (m : Int) once e bt.1 bt.2 (wrap64 ((i : Int) + 1)) n s t l else racewaylaw6_ResidualSteps.l1 k w (m : Int) once e (rpush f (i : Int) w) bt.2 (wrap64 ((i : Int) + 1)) n s t l) (fun k => ?_) ?_
    · simp only [racewaylaw6_ResidualSteps.j5, if_true]
    rw [wrap_succ (by omega)]
    by_cases c : Fits l f ((i : Int) + 1) w
    · refine Ev.bind (yes c) ?_
      simp only [if_true]
      exact ih (i + 1) (by omega) c
    · have he : e = 9 := by
        rcases hE with ⟨h, _⟩ | ⟨_, h⟩
        · exact absurd (fits_between F.within hw h (by omega) (by omega)) c
        · exact h
      subst he
      refine Ev.bind (no c) ?_
      simp only [if_neg (show ¬ (9 : Int) = 0 by decide)]
      refine Ev.step (f := fun k => racewaylaw6_ResidualSteps.j5 k w (m : Int) once 9 (rpush f (i : Int) w) 9 ((i + 1 : Nat) : Int) false n s t l) (fun k => ?_) (Ev.step (f := fun _ => some true) (fun k => ?_) (Ev.now true))
      · simp only [racewaylaw6_ResidualSteps.l1]
        split <;> rfl
      · simp [racewaylaw6_ResidualSteps.j5]
theorem tail_ev {n s t v x5 : Int} {l : List S49} {f w : List Int} (R : Right n s t l) (F : IsFlow n s t l f) (hw : ∀ r ∈ w, InR l r) (hwl : w.length ≤ 1000000) (hp : RPath l s w v) (hn : (w.map (· / 2)).Nodup) (hcap : ∀ a ∈ l, a.f2 < 1000000000000)
    (h5 : (Lit.int .i64 x5).wf = true) : Ev (fun k => racewaylaw6_ResidualSteps.j3 k x5 f w n s t l) true := by
  obtain ⟨b0, b1⟩ := wf_bounds h5
  have p := pk_range (c := x5) (n := 12) (by omega)
  obtain ⟨m, hm⟩ : ∃ m : Nat, 1 + pk x5 12 = (m : Int) := ⟨(1 + pk x5 12).toNat, by omega⟩
  have hin : ∀ r ∈ w, 0 ≤ r ∧ r < 2 * (f.length : Int) := fun r hr => by have := hw r hr; have := F.within.len; unfold InR at *; omega
  refine Ev.step (f := fun k => (residual_Push.f k n s t l f w (m : Int)).bind fun bt => racewaylaw6_ResidualSteps.l1 k w (m : Int) bt.1 bt.2 f 0 0 n s t l) (fun k => ?_) ?_
  · simp only [racewaylaw6_ResidualSteps.j3, pick_eq b0 b1 (show (0 : Int) < 12 by omega), Option.bind_some]
    rw [wrap_id (by omega) (by omega), hm]
  by_cases hv : v = t
  · subst hv
    have z := rpush_zero (w := w) hin
    have h0 : Fits l f ((0 : Nat) : Int) w := fun r hr => by
      have q := hw r hr
      unfold InR at q
      have x := within_rd F.within (i := r / 2) (by omega) (by omega)
      unfold rm
      split <;> simp <;> omega
    obtain ⟨yes, no⟩ := push_both (m := (m : Int)) R F hw hwl hp hn (by omega) (by omega) hcap
    by_cases c : Fits l f (m : Int) w
    · refine Ev.bind (yes c) ?_
      have := again_loop (once := rpush f (m : Int) w) (e := 0) R F hw hwl hp hn (by omega) hcap (Or.inl ⟨c, rfl, rfl⟩) m 0 (by omega) h0
      rw [show (((0 : Nat) : Int)) = 0 from rfl, z] at this
      exact this
    · refine Ev.bind (no c) ?_
      have := again_loop (once := []) (e := 9) R F hw hwl hp hn (by omega) hcap (Or.inr ⟨c, rfl⟩) m 0 (by omega) h0
      rw [show (((0 : Nat) : Int)) = 0 from rfl, z] at this
      exact this
  · refine Ev.bind (push_arg R F hw hwl hp hv) ?_
    refine Ev.step (f := fun k => racewaylaw6_ResidualSteps.j5 k w (m : Int) [] 1 f 0 0 true n s t l) (fun k => ?_) ?_
    · simp only [racewaylaw6_ResidualSteps.l1]
      rw [if_pos (by omega)]
      rfl
    refine Ev.step (f := fun k => (residual_Push.f k n s t l f w 1).bind fun bt => if bt.2 = 0 then racewaylaw6_ResidualSteps.l1 k w (m : Int) [] 1 bt.1 bt.2 (wrap64 (0 + 1)) n s t l else racewaylaw6_ResidualSteps.l1 k w (m : Int) [] 1 f bt.2 (wrap64 (0 + 1)) n s t l) (fun k => ?_) ?_
    · simp only [racewaylaw6_ResidualSteps.j5, if_true]
    refine Ev.bind (push_arg R F hw hwl hp hv) ?_
    simp only [if_neg (show ¬ (1 : Int) = 0 by decide)]
    refine Ev.step (f := fun k => racewaylaw6_ResidualSteps.j5 k w (m : Int) [] 1 f 1 (wrap64 (0 + 1)) false n s t l) (fun k => ?_) (Ev.step (f := fun _ => some true) (fun k => ?_) (Ev.now true))
    · simp only [racewaylaw6_ResidualSteps.l1]
      split <;> rfl
    · simp [racewaylaw6_ResidualSteps.j5]
theorem steps_loop {n s t x5 : Int} {l : List S49} {f steps : List Int} (R : Right n s t l) (F : IsFlow n s t l f) (hn : n ≤ 9) (hcap : ∀ a ∈ l, a.f2 < 1000000000000) (hst : ∀ x ∈ steps, (Lit.int .i64 x).wf = true) (hsl : steps.length ≤ 1000)
    (h5 : (Lit.int .i64 x5).wf = true) (d : Nat) : ∀ (i : Nat) (met : List Bool) (at_ : Int) (w : List Int), i + d = steps.length → w.length ≤ i → Making n s l met at_ w →
      Ev (fun k => racewaylaw6_ResidualSteps.l0 k steps x5 f met at_ w (i : Int) n s t l) true := by
  have hl := R.len
  induction d with
  | zero =>
    intro i met at_ w hi hwl M
    refine Ev.step (fun k => ?_) (Ev.step (fun k => ?_) (tail_ev (x5 := x5) R F M.inr (by omega) M.path M.nodup hcap h5)) (f := fun k => racewaylaw6_ResidualSteps.j2 k steps x5 f met at_ w (i : Int) false n s t l)
    · simp only [racewaylaw6_ResidualSteps.l0]
      rw [if_neg (by omega)]
    · simp only [racewaylaw6_ResidualSteps.j2]
      rw [if_neg (by decide)]
  | succ d ih =>
    intro i met at_ w hi hwl M
    have his : i < steps.length := by omega
    have T3 : Ev (fun k => racewaylaw6_ResidualSteps.j3 k x5 f w n s t l) true := tail_ev (x5 := x5) R F M.inr (by omega) M.path M.nodup hcap h5
    refine Ev.step (f := fun k => racewaylaw6_ResidualSteps.j2 k steps x5 f met at_ w (i : Int) (at_ != t) n s t l) (fun k => ?_) ?_
    · simp only [racewaylaw6_ResidualSteps.l0]
      rw [if_pos (by omega)]
    by_cases hat : at_ = t
    · refine Ev.step (fun k => ?_) T3
      simp only [racewaylaw6_ResidualSteps.j2]
      rw [if_neg (by simp [hat])]
    · have h1 := M.a1
      have h2 := M.an
      have h3 := M.len
      obtain ⟨T, hT, hTl, hTm⟩ := from_ev (n := n) (s := s) (t := t) (v := at_) hl
      obtain ⟨x0, x1⟩ := wf_bounds (hst _ (List.getElem_mem his))
      refine Ev.step (f := ?g) (fun k => ?h) ?e
      case h =>
        simp only [racewaylaw6_ResidualSteps.j2]
        rw [if_pos (by simp [hat]), if_pos (by omega), if_pos (by omega)]
      case e =>
        simp only [Option.bind_some]
        refine Ev.bind hT ?_
        by_cases hT0 : (T.length : Int) = 0
        · simp only [if_pos hT0]
          exact T3
        · have hpos : (0 : Int) < (T.length : Int) := by omega
          obtain ⟨p0, p1⟩ := pk_range (c := steps[i]) hpos
          obtain ⟨hr, hf⟩ := hTm _ (rd_mem p0 p1)
          obtain ⟨k0, k1, k2, k3⟩ := ends_range R.arcs hr
          have hi0 : (0 : Int) ≤ (i : Int) := by omega
          have hi1 : (i : Int) < (steps.length : Int) := by omega
          have hto1 : toOf l (rd T (pk steps[i] (T.length : Int))) < (met.length : Int) := by omega
          have hto0 : 0 ≤ toOf l (rd T (pk steps[i] (T.length : Int))) := by omega
          simp only [if_neg hT0, if_pos hi0, if_pos hi1, rd_get his, pick_eq x0 x1 hpos, Option.bind_some, if_pos p0, if_pos p1]
          refine Ev.bind (ends_ev hr hl) ?_
          simp only [if_pos hto0, if_pos hto1]
          have hwl2 : w.length < 17592186044416 := by omega
          by_cases c : rdOf false (met.set at_.toNat true) (toOf l (rd T (pk steps[i] (T.length : Int)))) = true
          · simp only [if_pos c]
            refine Ev.congr (fun k => ?_) (ih (i + 1) _ at_ w (by omega) (by omega) (M.stay R.arcs))
            rw [wrap_succ (by omega)]
          · simp only [if_neg c, if_pos hwl2]
            refine Ev.congr (fun k => ?_) (ih (i + 1) _ _ (w ++ [rd T (pk steps[i] (T.length : Int))]) (by omega) (by simp; omega) (M.move R.arcs hr hf c))
            rw [wrap_succ (by omega)]
theorem ResidualSteps : racewaylaw6_ResidualSteps.Pure := by
  intro a0 a1 l2 l3 l4 a5 w0 w1 m2 w2 m3 y3 w3 m4 y4 w4 w5
  obtain ⟨n, s, t, l, hmade, n2, n9, R, hl, _, hcap⟩ := made_ev w0 w1 w2
  have hcap' : ∀ a ∈ l, a.f2 < 1000000000000 := fun a ha => by have := hcap a ha; omega
  obtain ⟨f, F, _, hrout⟩ := routed_ev (raws := l3) R hcap' w3
  refine Ev.rounds ?_
  unfold racewaylaw6_ResidualSteps.f
  refine Ev.bind shown_ev ?_
  simp only [if_true]
  by_cases c : (l4.length : Int) > 60
  · refine Ev.step (f := fun _ => some true) (fun k => ?_) (Ev.now true)
    simp only [racewaylaw6_ResidualSteps.j0]
    rw [if_pos (decide_eq_true c)]
  · refine Ev.step (f := ?g) (fun k => ?h) ?e
    case h =>
      simp only [racewaylaw6_ResidualSteps.j0]
      rw [if_neg (by simpa using c)]
    case e =>
      have e1 : wrap64 (n + 1) = n + 1 := wrap_id (by omega) (by omega)
      have k1 : 0 ≤ n + 1 := by omega
      have k2 : (n + 1).toNat ≤ 281474976710656 := by omega
      refine Ev.bind hmade (Ev.bind hrout ?_)
      simp only [e1, if_pos k1, if_pos k2]
      exact steps_loop R F n9 hcap' w4 (by omega) w5 l4.length 0 _ s [] (by omega) (by simp) (Making.start R)
end Go.Proofs.Ytbppeffcikphcaa.Pure
