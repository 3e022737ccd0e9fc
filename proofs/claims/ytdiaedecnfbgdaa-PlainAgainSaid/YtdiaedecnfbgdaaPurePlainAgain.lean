/- Plain lists and numbers, for the law PlainAgain: no program and no memory. -/
-- slimm
import Derived.Test.YtdiaedecnfbgdaaPPlainAgainx0
import Derived.Test.YtdiaedecnfbgdaaPPlainAgainx7
import Derived.Test.YtdiaedecnfbgdaaPPlainAgainx9
import Derived.Test.YtdiaedecnfbgdaaPPlainAgainx26
import Derived.Test.YtdiaedecnfbgdaaMPlainAgainAll
set_option linter.unusedVariables false
namespace Go.Proofs.Ytdiaedecnfbgdaa.Pure
open Go.RowKit Go.Proofs.Ytdiaedecnfbgdaa.PPlainAgain Go.Proofs.YtdiaedecnfbgdaaW.PrintWords Go.Proofs.YtdiaedecnfbgdaaW.PrintLast
theorem pa_loop {n s t : Int} {l : List S30} (R : Right n s t l) (hcap : ∀ a ∈ l, a.f2 < 1000000000000) (q : Nat) : ∀ (k : Nat) (f up : List Int), (k : Int) + q = n → IsFlow n s t l f → Ev (fun k => level_Levels.f k n s t l f 1) (up, 0) → IsUp n s l (roomOf l f) 1 up →
  (k : Int) < n → (0 ≤ rd up t → (k : Int) + 1 ≤ rd up t) → Ev (fun j => racewaylaw8_PlainAgain.l0 j f (k : Int) n s t l) true := by
 have t1 := R.t1
 have tn := R.tn
 have n5 := R.n500
 have hll := R.len
 induction q with
 | zero => intro k f up hk F hup U hkn; omega
 | succ q ih =>
  intro k f up hk F hup U hkn hlev
  have hd := deep_ev R hup U
  obtain ⟨g, ws, hblk, G, C, hcut, hlw⟩ := block_ev R F hcap (by decide) hup U
  have hnil := chain_nil R U C hcut
  have hrng := U.rng t (by omega) tn
  by_cases c : 0 ≤ rd up t
  ·have hk1 := hlev c
   obtain ⟨v, hv, V⟩ := levels_ev R G (least := 1) (by decide)
   have hfar := fun h => (sink_farther R hcap (by decide) F U C hcut (Int.le_refl 1) V h).2
   have hnext := ih (k + 1) g v (by omega) G hv V (by omega) (fun h => by have := hfar h; omega)
   have hne : ¬ ((ws.length : Nat) : Int) = 0 := by
    have := List.length_pos_iff.2 (hnil.2 c)
    omega
   refine Ev.step (f := ?g) (fun j => ?h) ?e
   case h => rw [racewaylaw8_PlainAgain.l0]
   case e =>
    refine Ev.bind hd ?_
    simp only [if_true, if_neg (show ¬ rd up t < 0 by omega)]
    refine Ev.bind hblk ?_
    simp only [if_true, if_neg hne, if_neg (show ¬ (k : Int) ≥ n by omega)]
    rw [wrap_id (by omega) (by omega)]
    exact hnext
  ·have hws : ws = [] := by
    apply Classical.byContradiction
    intro hne
    exact c (hnil.1 hne)
   subst hws
   have hg : g = f := C
   subst hg
   obtain ⟨met, hmet, M⟩ := reach_ev R F (least := 1) (by decide)
   have hml := M.len
   have hmt : ¬ rdOf false met t = true := fun h => by
    have := M.min (fun v => 0 ≤ rd up v) (by show 0 ≤ rd up s; rw [U.src]; omega) (fun r hr hroom hp => (U.step r hr hroom hp).1) t (by omega) tn h
    exact c this
   refine Ev.step (f := ?g2) (fun j => ?h2) ?e2
   case h2 => rw [racewaylaw8_PlainAgain.l0]
   case e2 =>
    refine Ev.bind hd ?_
    simp only [if_true, if_pos (show rd up t < 0 by omega)]
    refine Ev.bind hblk (Ev.bind hmet ?_)
    simp only [if_true, List.length_nil]
    refine Ev.bind (same_ev _ _ (by have := F.1.len; omega)) ?_
    rw [wrap_id (x := n + 1) (by omega) (by omega)]
    refine Ev.congr (fun j => ?_) (Ev.now true)
    rw [if_pos (by simp), if_pos hml, if_pos (by omega), if_pos (by omega), if_neg hmt, decide_eq_true hkn]
theorem PlainAgain : racewaylaw8_PlainAgain.Pure := by
 intro a0 a1 l2 l3 w0 w1 m2 w2 m3 y3 w3
 obtain ⟨n, s, t, l, hmade, n2, n9, R, hl, _, hcap⟩ := made_ev w0 w1 w2
 have hcap2 : ∀ a ∈ l, a.f2 < 1000000000000 := fun a ha => by have := hcap a ha; omega
 obtain ⟨f, F, _, hrout⟩ := routed_ev R hcap2 w3
 obtain ⟨up, hup, U⟩ := levels_ev R F (least := 1) (by decide)
 have t1 := R.t1
 have L0 := pa_loop R hcap2 n.toNat 0 f up (by omega) F hup U (by omega) (fun h => by
  by_cases e : rd up t = 0
  ·exact absurd (U.zero t (by omega) R.tn e).symm R.ne
  ·omega)
 refine Ev.rounds ?_
 unfold racewaylaw8_PlainAgain.f
 refine Ev.bind shown8_ev ?_
 simp only [if_true]
 exact Ev.bind hmade (Ev.bind hrout L0)
end Go.Proofs.Ytdiaedecnfbgdaa.Pure
