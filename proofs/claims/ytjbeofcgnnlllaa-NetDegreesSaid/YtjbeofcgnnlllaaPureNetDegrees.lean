/- Plain lists and numbers, for the law NetDegrees: no program and no memory. -/
import Derived.Test.YtjbeofcgnnlllaaPNetDegreesx0
import Derived.Test.YtjbeofcgnnlllaaPNetDegreesx10
import Derived.Test.YtjbeofcgnnlllaaPNetDegreesx11
import Derived.Test.YtjbeofcgnnlllaaPNetDegreesx14
import Derived.Test.YtjbeofcgnnlllaaPNetDegreesx18
import Derived.Test.YtjbeofcgnnlllaaMNetDegreesBase
import Derived.Test.YtjbeofcgnnlllaaMNetDegreesPick
import Derived.Test.YtjbeofcgnnlllaaMNetDegreesMade
import Derived.Test.YtjbeofcgnnlllaaMNetDegreesFlowmath
import Derived.Test.YtjbeofcgnnlllaaMNetDegreesSamei
import Derived.Test.YtjbeofcgnnlllaaMNetDegreesShown3
import Derived.Test.YtjbeofcgnnlllaaMNetDegreesArcs
set_option linter.unusedVariables false
namespace Go.Proofs.Ytjbeofcgnnlllaa.Pure
open Go.RowKit Go.Proofs.Ytjbeofcgnnlllaa.PNetDegrees Go.Proofs.YtjbeofcgnnlllaaW.PrintWords Go.Proofs.YtjbeofcgnnlllaaW.PrintLast
theorem degrees_loop {n s t : Int} {l : List S28} {a : S28} (hl : l.length ≤ 24) (hn : n ≤ 9) (d : Nat) : ∀ v : Int, 1 ≤ v → v + d = n + 1 →
    Ev (fun k => racewaylaw3_NetDegrees.l0 k v n s t l n s t (l ++ [a]) a.f0 a.f1 1) true := by
  have hl1 : (l ++ [a]).length ≤ 3001 := by simp; omega
  induction d with
  | zero =>
    intro v h1 hv
    refine Ev.step (f := fun _ => some true) (fun k => ?_) (Ev.now _)
    simp only [racewaylaw3_NetDegrees.l0]
    rw [if_neg (by omega)]
  | succ d ih =>
    intro v h1 hv
    have lo := arcsOf_len (p := (·.f0)) (v := v) l 0
    have li := arcsOf_len (p := (·.f1)) (v := v) l 0
    have eo := arcsOf_snoc (p := (·.f0)) (v := v) (a := a) l 0
    have ei := arcsOf_snoc (p := (·.f1)) (v := v) (a := a) l 0
    rw [Nat.zero_add] at eo ei
    obtain ⟨P, hP⟩ : ∃ P, arcsOf (·.f0) v l 0 ++ (if a.f0 = v then [(l.length : Int)] else []) = P := ⟨_, rfl⟩
    obtain ⟨Q, hQ⟩ : ∃ Q, arcsOf (·.f1) v l 0 ++ (if a.f1 = v then [(l.length : Int)] else []) = Q := ⟨_, rfl⟩
    have hPl : P.length ≤ 1000000 := by rw [← hP]; split <;> simp <;> omega
    have hQl : Q.length ≤ 1000000 := by rw [← hQ]; split <;> simp <;> omega
    have last : Ev (fun k => racewaylaw3_NetDegrees.j2 k v P Q P Q n s t l n s t (l ++ [a]) a.f0 a.f1 1) true := by
      refine Ev.step (f := ?g) (fun k => ?h) ?e
      case h => simp only [racewaylaw3_NetDegrees.j2]; exact rfl
      case e =>
        refine Ev.bind (samei_ev P P hPl) ?_
        simp only [decide_true, if_true]
        refine Ev.bind (samei_ev Q Q hQl) ?_
        simp only [decide_true, if_true]
        refine Ev.congr (fun k => ?_) (ih (v + 1) (by omega) (by omega))
        rw [wrap_id (by omega) (by omega)]
    have mid : Ev (fun k => racewaylaw3_NetDegrees.j1 k v P Q P (arcsOf (·.f1) v l 0) n s t l n s t (l ++ [a]) a.f0 a.f1 1) true := by
      refine Ev.step (fun k => ?_) last
      simp only [racewaylaw3_NetDegrees.j1]
      by_cases c : a.f1 = v
      · rw [if_pos c.symm, if_pos (by omega), ← hQ, if_pos c]
      · rw [if_neg (fun e => c e.symm), ← hQ, if_neg c, List.append_nil]
    refine Ev.step (fun k => ?_) mid
    simp only [racewaylaw3_NetDegrees.l0]
    rw [if_pos (by omega), out_eq hl1, in_eq hl1, out_eq (by omega), in_eq (by omega)]
    simp only [Option.bind_some]
    rw [eo, ei, hP, hQ]
    by_cases c : a.f0 = v
    · rw [if_pos c.symm, if_pos (by omega), ← hP, if_pos c]
    · rw [if_neg (fun e => c e.symm), ← hP, if_neg c, List.append_nil]
theorem NetDegrees : racewaylaw3_NetDegrees.Pure := by
  intro a0 a1 l2 b0 b1 b2 w0 w1 m2 w2 u0 u1 u2
  obtain ⟨n, s, t, l, hmade, n2, n9, R, hl, _, hcap⟩ := made_ev w0 w1 w2
  obtain ⟨x0, y0⟩ := wf_bounds u0
  obtain ⟨x1, y1⟩ := wf_bounds u1
  have p0 := pk_range (c := b0) (n := n) (by omega)
  have p1 := pk_range (c := b1) (n := n) (by omega)
  have hcopy : net_Copy.f n s t l = some (n, s, t, l) := by
    have hl3 : l.length < 5864062014805 := by omega
    simp [net_Copy.f, cloneArc.f, hl3]
  have hl3 : l.length < 5864062014805 := by omega
  refine Ev.rounds ?_
  unfold racewaylaw3_NetDegrees.f
  simp only [shown_true, Option.bind_some, if_true]
  refine Ev.bind hmade ?_
  simp only [hcopy, Option.bind_some, pick_eq x0 y0 (show 0 < n by omega), pick_eq x1 y1 (show 0 < n by omega), if_pos hl3]
  have := degrees_loop (n := n) (s := s) (t := t) (l := l) (a := ⟨wrap64 (1 + pk b0 n), wrap64 (1 + pk b1 n), 1⟩) hl n9 n.toNat 1 (by omega) (by omega)
  exact this
end Go.Proofs.Ytjbeofcgnnlllaa.Pure
