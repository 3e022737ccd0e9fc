/- Plain lists and numbers, for the law NetOrder: no program and no memory. -/
import Derived.Test.YtjbeofcgnnlllaaPNetOrderx0
import Derived.Test.YtjbeofcgnnlllaaPNetOrderx3
import Derived.Test.YtjbeofcgnnlllaaPNetOrderx10
import Derived.Test.YtjbeofcgnnlllaaPNetOrderx11
import Derived.Test.YtjbeofcgnnlllaaPNetOrderx13
import Derived.Test.YtjbeofcgnnlllaaMNetOrderBase
import Derived.Test.YtjbeofcgnnlllaaMNetOrderPick
import Derived.Test.YtjbeofcgnnlllaaMNetOrderMade
import Derived.Test.YtjbeofcgnnlllaaMNetOrderFlowmath
import Derived.Test.YtjbeofcgnnlllaaMNetOrderShown3
import Derived.Test.YtjbeofcgnnlllaaMNetOrderTurn
import Derived.Test.YtjbeofcgnnlllaaMNetOrderCapsum
set_option linter.unusedVariables false
namespace Go.Proofs.Ytjbeofcgnnlllaa.Pure
open Go.RowKit Go.Proofs.Ytjbeofcgnnlllaa.PNetOrder Go.Proofs.YtjbeofcgnnlllaaW.PrintWords Go.Proofs.YtjbeofcgnnlllaaW.PrintLast
theorem order_last {n s t c : Int} {m : List S28} (hm : m.length ≤ 1000) (h : net_Check.f n s t m = some c) : Ev (fun k => racewaylaw3_NetOrder.j0 k c n s t m) true := by
  have hcopy : net_Copy.f n s t m = some (n, s, t, m) := by
    have hb : m.length < 5864062014805 := by omega
    simp [net_Copy.f, cloneArc.f, hb]
  refine Ev.step (f := fun _ => some true) (fun k => ?_) (Ev.now _)
  simp only [racewaylaw3_NetOrder.j0, h, Option.bind_some, if_true, turn_eq (show m.length ≤ 1000000 by omega), check_turn, hcopy]
  simp
theorem order_chk {n : Int} {m : List S28} (hg : ∀ a ∈ m, GoodArc n a) (hcap : ∀ a ∈ m, a.f2 < 1000000) (hm : m.length ≤ 25) {k : Nat} (hk : k < m.length) (a : S28) :
    ∃ z, 0 ≤ z ∧ z ≤ 25000000 ∧ chkArcs n (m.set k a) 0 = chkArcs n (a :: m.drop (k + 1)) z := by
  have e : m.set k a = m.take k ++ a :: m.drop (k + 1) := by
    rw [List.set_eq_take_append_cons_drop, if_pos hk]
  have hg1 : ∀ x ∈ m.take k, GoodArc n x := fun x hx => hg x (List.mem_of_mem_take hx)
  have h1 := sumCap_le (l := m.take k) (fun x hx => hcap x (List.mem_of_mem_take hx))
  have h2 := sumCap_nonneg hg1
  have h3 : (m.take k).length ≤ 25 := by rw [List.length_take]; omega
  refine ⟨sumCap (m.take k), h2, by omega, ?_⟩
  rw [e, chk_app hg1 (Int.le_refl 0) (by omega), Int.zero_add]
theorem order_check {n s t : Int} {m : List S28} (n2 : 2 ≤ n) (n9 : n ≤ 500) (hs : 1 ≤ s ∧ s ≤ n) (ht : 1 ≤ t ∧ t ≤ n) (hne : s ≠ t) (hm : m.length ≤ 2000) : net_Check.f n s t m = chkArcs n m 0 := by
  unfold net_Check.f
  rw [if_neg (by omega), if_neg (fun hc => hc ⟨hs.1, hs.2, ht.1, ht.2⟩), if_neg hne, if_neg (by omega)]
theorem NetOrder : racewaylaw3_NetOrder.Pure := by
  intro a0 a1 l2 a3 a4 w0 w1 m2 w2 w3 w4
  obtain ⟨n, s, t, l, hmade, n2, n9, R, hl, _, hcap⟩ := made_ev w0 w1 w2
  obtain ⟨x3, y3⟩ := wf_bounds w3
  obtain ⟨x4, y4⟩ := wf_bounds w4
  obtain ⟨m, hm⟩ : ∃ m, l ++ [(⟨1, 2, 1⟩ : S28)] = m := ⟨_, rfl⟩
  have hml : m.length ≤ 25 := by rw [← hm]; simp; omega
  have hm0 : 0 < m.length := by rw [← hm]; simp
  have hg : ∀ a ∈ m, GoodArc n a := by
    intro a ha
    rw [← hm] at ha
    rcases List.mem_append.1 ha with ha | ha
    · exact R.arcs a ha
    · obtain rfl := List.mem_singleton.1 ha
      exact ⟨by decide, show (1 : Int) ≤ n by omega, by decide, n2, by decide⟩
  have hc2 : ∀ a ∈ m, a.f2 < 1000000 := by
    intro a ha
    rw [← hm] at ha
    rcases List.mem_append.1 ha with ha | ha
    · exact hcap a ha
    · obtain rfl := List.mem_singleton.1 ha
      decide
  have p3 := pk_range (c := a3) (n := (m.length : Int)) (by omega)
  have p4 := pk_range (c := a4) (n := 9) (by omega)
  have hl3 : l.length < 5864062014805 := by omega
  have s1 := R.s1
  have sn := R.sn
  have t1 := R.t1
  have tn := R.tn
  have hne := R.ne
  refine Ev.rounds ?_
  unfold racewaylaw3_NetOrder.f
  simp only [shown_true, Option.bind_some, if_true]
  refine Ev.bind hmade ?_
  simp only [if_pos hl3, hm, Option.bind_some, pick_eq x3 y3 (show (0 : Int) < m.length by omega), pick_eq x4 y4 (show (0 : Int) < 9 by decide)]
  obtain ⟨k, hk⟩ : ∃ k, pk a3 (m.length : Int) = k := ⟨_, rfl⟩
  rw [hk] at p3 ⊢
  have hkl : k.toNat < m.length := by omega
  have hrd : rd_T28 m k = m[k.toNat] := by
    have e3 := rdT_get (l := m) hkl
    rwa [Int.toNat_of_nonneg p3.1] at e3
  obtain ⟨g0, g1, g2, g3, g4⟩ := hg _ (List.getElem_mem hkl)
  have g5 := hc2 _ (List.getElem_mem hkl)
  have hset : ∀ x : S28, (m.set k.toNat x).length ≤ 1000 := fun x => by rw [List.length_set]; omega
  have hw : wrap64 (n + 1) = n + 1 := wrap_id (by omega) (by omega)
  have hck : ∀ x : S28, net_Check.f n s t (m.set k.toNat x) = chkArcs n (m.set k.toNat x) 0 := fun x => order_check n2 (by omega) ⟨s1, sn⟩ ⟨t1, tn⟩ hne (by rw [List.length_set]; omega)
  by_cases c0 : pk a4 9 = 0
  · simp only [if_pos c0]
    exact order_last (by omega) (by unfold net_Check.f; rw [if_pos (by omega)])
  simp only [if_neg c0]
  by_cases c1 : pk a4 9 = 1
  · simp only [if_pos c1]
    exact order_last (by omega) (by unfold net_Check.f; rw [if_pos (by omega)])
  simp only [if_neg c1]
  by_cases c2 : pk a4 9 = 2
  · simp only [if_pos c2, hw]
    exact order_last (by omega) (by unfold net_Check.f; rw [if_neg (by omega), if_pos (by omega)])
  simp only [if_neg c2]
  by_cases c3 : pk a4 9 = 3
  · simp only [if_pos c3]
    exact order_last (by omega) (by unfold net_Check.f; rw [if_neg (by omega), if_pos (by omega)])
  simp only [if_neg c3]
  by_cases c4 : pk a4 9 = 4
  · simp only [if_pos c4]
    exact order_last (by omega) (by unfold net_Check.f; rw [if_neg (by omega), if_neg (by omega), if_pos rfl])
  simp only [if_neg c4]
  by_cases c5 : pk a4 9 = 5
  · simp only [if_pos c5, if_pos p3.1, if_pos p3.2, Option.bind_some]
    have hr2 : rd_T28 (m.set k.toNat ⟨0, (rd_T28 m k).f1, (rd_T28 m k).f2⟩) k = ⟨0, (rd_T28 m k).f1, (rd_T28 m k).f2⟩ := by
      have e3 := rdT_get (l := m.set k.toNat ⟨0, (rd_T28 m k).f1, (rd_T28 m k).f2⟩) (i := k.toNat) (by rw [List.length_set]; exact hkl)
      rw [Int.toNat_of_nonneg p3.1] at e3
      rw [e3, List.getElem_set_self]
    rw [hr2, List.set_set]
    refine order_last (hset _) ?_
    obtain ⟨z, z0, z1, hz⟩ := order_chk hg hc2 hml hkl (⟨0, (rd_T28 m k).f1, -1⟩ : S28)
    rw [hck, hz]
    simp [chkArcs]
  simp only [if_neg c5]
  by_cases c6 : pk a4 9 = 6
  · simp only [if_pos c6, if_pos p3.1, if_pos p3.2, hw]
    refine order_last (hset _) ?_
    obtain ⟨z, z0, z1, hz⟩ := order_chk hg hc2 hml hkl (⟨(rd_T28 m k).f0, n + 1, (rd_T28 m k).f2⟩ : S28)
    rw [hck, hz, hrd]
    unfold chkArcs
    rw [if_pos (show -9223372036854775808 ≤ (m[k.toNat]).f2 ∧ (m[k.toNat]).f2 ≤ 9223372036854775807 from ⟨by omega, by omega⟩), if_neg (fun h => by have := h.2.2.2; simp only at this; omega)]
  simp only [if_neg c6]
  by_cases c7 : pk a4 9 = 7
  · simp only [if_pos c7, if_pos p3.1, if_pos p3.2]
    refine order_last (hset _) ?_
    obtain ⟨z, z0, z1, hz⟩ := order_chk hg hc2 hml hkl (⟨(rd_T28 m k).f0, (rd_T28 m k).f1, -1⟩ : S28)
    rw [hck, hz, hrd]
    unfold chkArcs
    rw [if_pos (show (-9223372036854775808 : Int) ≤ -1 ∧ (-1 : Int) ≤ 9223372036854775807 from ⟨by decide, by decide⟩), if_pos (show 1 ≤ (m[k.toNat]).f0 ∧ (m[k.toNat]).f0 ≤ n ∧ 1 ≤ (m[k.toNat]).f1 ∧ (m[k.toNat]).f1 ≤ n from ⟨g0, g1, g2, g3⟩), if_pos (show (-1 : Int) < 0 by decide)]
  simp only [if_neg c7, if_pos p3.1, if_pos p3.2]
  refine order_last (hset _) ?_
  obtain ⟨z, z0, z1, hz⟩ := order_chk hg hc2 hml hkl (⟨(rd_T28 m k).f0, (rd_T28 m k).f1, 4611686018427387904⟩ : S28)
  rw [hck, hz, hrd]
  unfold chkArcs
  rw [if_pos (show (-9223372036854775808 : Int) ≤ 4611686018427387904 ∧ (4611686018427387904 : Int) ≤ 9223372036854775807 from ⟨by decide, by decide⟩), if_pos (show 1 ≤ (m[k.toNat]).f0 ∧ (m[k.toNat]).f0 ≤ n ∧ 1 ≤ (m[k.toNat]).f1 ∧ (m[k.toNat]).f1 ≤ n from ⟨g0, g1, g2, g3⟩), if_neg (show ¬ (4611686018427387904 : Int) < 0 by decide), if_pos (show (4611686018427387903 : Int) < z + 4611686018427387904 by omega)]
end Go.Proofs.Ytjbeofcgnnlllaa.Pure
