/- Plain lists and numbers, for the law FlowLoops: no program and no memory. -/
import Derived.Test.YtjbeofcgnnlllaaPFlowLoopsx0
import Derived.Test.YtjbeofcgnnlllaaPFlowLoopsx13
import Derived.Test.YtjbeofcgnnlllaaMFlowLoopsBase
import Derived.Test.YtjbeofcgnnlllaaMFlowLoopsPick
import Derived.Test.YtjbeofcgnnlllaaMFlowLoopsMade
import Derived.Test.YtjbeofcgnnlllaaMFlowLoopsFlowmath
import Derived.Test.YtjbeofcgnnlllaaMFlowLoopsFlowfun
import Derived.Test.YtjbeofcgnnlllaaMFlowLoopsValue
import Derived.Test.YtjbeofcgnnlllaaMFlowLoopsExcess
import Derived.Test.YtjbeofcgnnlllaaMFlowLoopsWalk
import Derived.Test.YtjbeofcgnnlllaaMFlowLoopsRouted
import Derived.Test.YtjbeofcgnnlllaaMFlowLoopsShown5
import Derived.Test.YtjbeofcgnnlllaaMFlowLoopsCapsum
set_option linter.unusedVariables false
namespace Go.Proofs.Ytjbeofcgnnlllaa.Pure
open Go.RowKit Go.Proofs.Ytjbeofcgnnlllaa.PFlowLoops Go.Proofs.YtjbeofcgnnlllaaW.PrintWords Go.Proofs.YtjbeofcgnnlllaaW.PrintLast
theorem exc_snoc {a : S28} {x v : Int} : ∀ {l : List S28} {f : List Int}, f.length = l.length → exc (l ++ [a]) (f ++ [x]) v = exc l f v + ((if a.f1 = v then x else 0) - (if a.f0 = v then x else 0))
  | [], [], _ => by simp [exc]
  | b :: l, y :: f, h => by
    simp only [List.cons_append, exc]
    rw [exc_snoc (by simpa using h)]; omega
  | [], _ :: _, h => absurd h (by simp)
  | _ :: _, [], h => absurd h (by simp)
theorem within_snoc {a : S28} {x : Int} (h0 : 0 ≤ x) (h1 : x ≤ a.f2) : ∀ {l : List S28} {f : List Int}, Within l f → Within (l ++ [a]) (f ++ [x])
  | [], [], _ => ⟨h0, h1, trivial⟩
  | _ :: _, _ :: _, h => ⟨h.1, h.2.1, within_snoc h0 h1 h.2.2⟩
  | [], _ :: _, h => h.elim
  | _ :: _, [], h => h.elim
theorem within_snoc_not {a : S28} {x : Int} (h1 : a.f2 < x) : ∀ {l : List S28} {f : List Int}, f.length = l.length → ¬ Within (l ++ [a]) (f ++ [x])
  | [], [], _, h => by have := h.2.1; omega
  | _ :: _, _ :: _, hl, h => within_snoc_not h1 (by simpa using hl) h.2.2
  | [], _ :: _, h, _ => absurd h (by simp)
  | _ :: _, [], h, _ => absurd h (by simp)
theorem FlowLoops : racewaylaw5_FlowLoops.Pure := by
  intro a0 a1 l2 l3 a4 a5 w0 w1 m2 w2 m3 y3 w3 w4 w5
  obtain ⟨n, s, t, l, hmade, n2, n9, R, hl, _, hcap⟩ := made_ev w0 w1 w2
  obtain ⟨f, F, _, hrout⟩ := routed_ev (raws := l3) R (fun a ha => by have := hcap a ha; omega) w3
  obtain ⟨b0, b1⟩ := wf_bounds w4
  obtain ⟨c0, c1⟩ := wf_bounds w5
  have p := pk_range (c := a4) (n := n) (by omega)
  have q := pk_range (c := a5) (n := 12) (by omega)
  obtain ⟨u, hu⟩ : ∃ u, 1 + pk a4 n = u := ⟨_, rfl⟩
  obtain ⟨x, hx⟩ : ∃ x, pk a5 12 = x := ⟨_, rfl⟩
  have hflen := F.within.len
  have hs1 := sumCap_le hcap
  have hM : Right n s t (l ++ [⟨u, u, 9⟩]) := by
    refine ⟨R.n2, R.n500, R.s1, R.sn, R.t1, R.tn, R.ne, by simp; omega, fun a ha => ?_, ?_⟩
    · rcases List.mem_append.1 ha with ha | ha
      · exact R.arcs a ha
      · obtain rfl := List.mem_singleton.1 ha
        exact ⟨by show 1 ≤ u; omega, by show u ≤ n; omega, by show 1 ≤ u; omega, by show u ≤ n; omega, by show (0 : Int) ≤ 9; omega⟩
    · rw [sumCap_app]; simp only [sumCap]; omega
  have hlen2 : (f ++ [x]).length = (l ++ [(⟨u, u, 9⟩ : S28)]).length := by simp; omega
  have hv1 := value_flow R F
  refine Ev.rounds ?_
  unfold racewaylaw5_FlowLoops.f
  refine Ev.bind shown_ev ?_
  simp only [if_true]
  refine Ev.bind hmade (Ev.bind hrout (Ev.bind hv1 ?_))
  have k1 : l.length < 5864062014805 := by omega
  have k2 : ([] : List Int).length + f.length < 17592186044416 := by simp; omega
  have k3 : ([] ++ f : List Int).length < 17592186044416 := by simp; omega
  have k4 : f.length < 17592186044416 := by omega
  have e1 : wrap64 (1 + pk a4 n) = u := by rw [wrap_id (by omega) (by omega)]; exact hu
  simp only [pick_eq b0 b1 (show 0 < n by omega), pick_eq c0 c1 (show (0 : Int) < 12 by omega), Option.bind_some, if_pos k1, if_pos k2, if_pos k3, if_pos k4, e1, hx, List.nil_append]
  by_cases hx9 : x > 9
  · refine Ev.bind (value_err (check_range hM hlen2 (within_snoc_not (by show (9 : Int) < x; omega) hflen)) (by omega)) ?_
    simp only [if_pos hx9, if_true]
    exact Ev.now true
  · have hFx : ∀ y, 0 ≤ y → y ≤ 9 → IsFlow n s t (l ++ [⟨u, u, 9⟩]) (f ++ [y]) := fun y y0 y9 =>
      ⟨within_snoc y0 y9 F.within, fun v h1 h2 h3 h4 => by rw [exc_snoc hflen, F.cons v h1 h2 h3 h4]; simp⟩
    have hG := hFx x (by omega) (by omega)
    have hZ := hFx 0 (by omega) (by omega)
    have hE : ∀ y v, exc (l ++ [(⟨u, u, 9⟩ : S28)]) (f ++ [y]) v = exc l f v := fun y v => by rw [exc_snoc hflen]; simp
    refine Ev.bind (value_flow hM hG) ?_
    simp only [if_neg hx9]
    refine Ev.bind (excess_ev hM hG.within (v := u) (by omega) (by omega)) ?_
    have j1 : wrap64 (((f ++ [x]).length : Int) - 1) = (f.length : Int) := by
      rw [wrap_id (by omega) (by simp; omega)]; simp
    have j2 : (0 : Int) ≤ (f.length : Int) := by omega
    have j3 : (f.length : Int) < ((f ++ [x]).length : Int) := by simp; omega
    have j4 : (f ++ [x]).set f.length 0 = f ++ [0] := by simp
    simp only [j1, if_pos j2, if_pos j3, Int.toNat_natCast, j4]
    refine Ev.bind (excess_ev hM hZ.within (v := u) (by omega) (by omega)) ?_
    simp only [hE, if_true]
    simpa using Ev.now true
end Go.Proofs.Ytjbeofcgnnlllaa.Pure
