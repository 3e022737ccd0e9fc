/- Plain lists and numbers, for the law NetSames: no program and no memory. -/
import Derived.Test.YtjbeofcgnnlllaaPNetSamesx0
import Derived.Test.YtjbeofcgnnlllaaPNetSamesx10
import Derived.Test.YtjbeofcgnnlllaaPNetSamesx11
import Derived.Test.YtjbeofcgnnlllaaPNetSamesx12
import Derived.Test.YtjbeofcgnnlllaaMNetSamesBase
import Derived.Test.YtjbeofcgnnlllaaMNetSamesPick
import Derived.Test.YtjbeofcgnnlllaaMNetSamesMade
import Derived.Test.YtjbeofcgnnlllaaMNetSamesFlowmath
import Derived.Test.YtjbeofcgnnlllaaMNetSamesShown3
import Derived.Test.YtjbeofcgnnlllaaMNetSamesEqarcs
set_option linter.unusedVariables false
namespace Go.Proofs.Ytjbeofcgnnlllaa.Pure
open Go.RowKit Go.Proofs.Ytjbeofcgnnlllaa.PNetSames Go.Proofs.YtjbeofcgnnlllaaW.PrintWords Go.Proofs.YtjbeofcgnnlllaaW.PrintLast
theorem last_ev {n s t n' s' t' : Int} {l m : List S28} (hm : m.length < 5864062014805) (h : n = n' → s = s' → t = t' → l = m → False) :
    Ev (fun k => racewaylaw3_NetSames.j0 k n s t l n' s' t' m) true := by
  have hcopy : net_Copy.f n' s' t' m = some (n', s', t', m) := by simp [net_Copy.f, cloneArc.f, hm]
  refine Ev.step (f := fun _ => some true) (fun k => ?_) (Ev.now _)
  simp only [racewaylaw3_NetSames.j0, same_self, same_not h, same_not (fun a b c d => h a.symm b.symm c.symm d.symm), hcopy, Option.bind_some]
  simp
theorem set_ne {l : List S28} {i : Int} {x : S28} (h0 : 0 ≤ i) (h1 : i < (l.length : Int)) (h : x ≠ rd_T28 l i) : l = l.set i.toNat x → False := by
  intro e
  have hi : i.toNat < l.length := by omega
  have e1 : (l.set i.toNat x)[i.toNat]? = some x := by rw [List.getElem?_set_self hi]
  rw [← e] at e1
  apply h
  have e2 : l[i.toNat]? = some l[i.toNat] := List.getElem?_eq_getElem hi
  rw [e2] at e1
  have e3 := rdT_get (l := l) hi
  rw [Int.toNat_of_nonneg h0] at e3
  rw [e3]
  exact (Option.some.inj e1).symm
theorem NetSames : racewaylaw3_NetSames.Pure := by
  intro a0 a1 l2 a3 a4 w0 w1 m2 w2 w3 w4
  obtain ⟨n, s, t, l, hmade, n2, n9, R, hl, _, hcap⟩ := made_ev w0 w1 w2
  obtain ⟨x3, y3⟩ := wf_bounds w3
  obtain ⟨x4, y4⟩ := wf_bounds w4
  obtain ⟨m, hm⟩ : ∃ m, l ++ [(⟨1, 2, 1⟩ : S28)] = m := ⟨_, rfl⟩
  have hml : m.length ≤ 25 := by rw [← hm]; simp; omega
  have hm0 : 0 < m.length := by rw [← hm]; simp
  have hg : ∀ a ∈ m, 1 ≤ a.f0 ∧ a.f0 ≤ 9 ∧ 1 ≤ a.f1 ∧ a.f1 ≤ 9 ∧ 0 ≤ a.f2 ∧ a.f2 < 1000000 := by
    intro a ha
    rw [← hm] at ha
    rcases List.mem_append.1 ha with ha | ha
    · have h := R.arcs a ha
      have h2 := hcap a ha
      obtain ⟨h0, h1, h3, h4, h5⟩ := h
      exact ⟨h0, by omega, h3, by omega, h5, h2⟩
    · obtain rfl := List.mem_singleton.1 ha
      exact ⟨by decide, by decide, by decide, by decide, by decide, by decide⟩
  have p3 := pk_range (c := a3) (n := (m.length : Int)) (by omega)
  have p4 := pk_range (c := a4) (n := 7) (by omega)
  have hcopy : net_Copy.f n s t m = some (n, s, t, m) := by
    have hl3 : m.length < 5864062014805 := by omega
    simp [net_Copy.f, cloneArc.f, hl3]
  have hl3 : l.length < 5864062014805 := by omega
  have hbig : m.length < 5864062014805 := by omega
  have hs : 1 ≤ s ∧ s ≤ 9 := ⟨R.s1, by have := R.sn; omega⟩
  have ht : 1 ≤ t ∧ t ≤ 9 := ⟨R.t1, by have := R.tn; omega⟩
  refine Ev.rounds ?_
  unfold racewaylaw3_NetSames.f
  simp only [shown_true, Option.bind_some, if_true]
  refine Ev.bind hmade ?_
  simp only [if_pos hl3, hm, hcopy, Option.bind_some, pick_eq x3 y3 (show (0 : Int) < m.length by omega), pick_eq x4 y4 (show (0 : Int) < 7 by decide)]
  obtain ⟨k, hk⟩ : ∃ k, pk a3 (m.length : Int) = k := ⟨_, rfl⟩
  rw [hk] at p3 ⊢
  have hmem : rd_T28 m k ∈ m := by
    have e3 := rdT_get (l := m) (i := k.toNat) (by omega)
    rw [Int.toNat_of_nonneg p3.1] at e3
    rw [e3]
    exact List.getElem_mem _
  obtain ⟨g0, g1, g2, g3, g4, g5⟩ := hg _ hmem
  have hset : ∀ x : S28, (m.set k.toNat x).length < 5864062014805 := fun x => by rw [List.length_set]; omega
  by_cases c0 : pk a4 7 = 0
  · simp only [if_pos c0]
    exact last_ev hbig (fun e _ _ _ => by rw [wrap_id (by omega) (by omega)] at e; omega)
  simp only [if_neg c0]
  by_cases c1 : pk a4 7 = 1
  · simp only [if_pos c1]
    exact last_ev hbig (fun _ e _ _ => by rw [wrap_id (by omega) (by omega)] at e; omega)
  simp only [if_neg c1]
  by_cases c2 : pk a4 7 = 2
  · simp only [if_pos c2]
    exact last_ev hbig (fun _ _ e _ => by rw [wrap_id (by omega) (by omega)] at e; omega)
  simp only [if_neg c2]
  by_cases c3 : pk a4 7 = 3
  · simp only [if_pos c3, if_pos p3.1, if_pos p3.2]
    exact last_ev (hset _) (fun _ _ _ e => set_ne p3.1 p3.2 (fun h => by
      have h' := congrArg S28.f0 h
      simp only at h'
      rw [wrap_id (by omega) (by omega)] at h'
      omega) e)
  simp only [if_neg c3]
  by_cases c4 : pk a4 7 = 4
  · simp only [if_pos c4, if_pos p3.1, if_pos p3.2]
    exact last_ev (hset _) (fun _ _ _ e => set_ne p3.1 p3.2 (fun h => by
      have h' := congrArg S28.f1 h
      simp only at h'
      rw [wrap_id (by omega) (by omega)] at h'
      omega) e)
  simp only [if_neg c4]
  by_cases c5 : pk a4 7 = 5
  · simp only [if_pos c5, if_pos p3.1, if_pos p3.2]
    exact last_ev (hset _) (fun _ _ _ e => set_ne p3.1 p3.2 (fun h => by
      have h' := congrArg S28.f2 h
      simp only at h'
      rw [wrap_id (by omega) (by omega)] at h'
      omega) e)
  simp only [if_neg c5]
  simp only [if_pos (show (1 : Int) ≤ (m.length : Int) by omega)]
  refine last_ev (by rw [List.length_drop]; omega) (fun _ _ _ e => ?_)
  have h' := congrArg List.length e
  rw [List.length_drop] at h'
  have : (1 : Int).toNat = 1 := rfl
  omega
end Go.Proofs.Ytjbeofcgnnlllaa.Pure
