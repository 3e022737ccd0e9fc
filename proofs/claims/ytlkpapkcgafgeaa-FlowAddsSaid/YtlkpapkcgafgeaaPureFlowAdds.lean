/- Plain lists and numbers, for the law FlowAdds: no program and no memory. -/
import Derived.Test.YtlkpapkcgafgeaaPFlowAddsx0
import Derived.Test.YtlkpapkcgafgeaaPFlowAddsx5
import Derived.Test.YtlkpapkcgafgeaaPFlowAddsx12
import Derived.Test.YtlkpapkcgafgeaaPFlowAddsx14
import Derived.Test.YtlkpapkcgafgeaaMFlowAddsAll
set_option linter.unusedVariables false
namespace Go.Proofs.Ytlkpapkcgafgeaa.Pure
open Go.RowKit Go.Proofs.Ytlkpapkcgafgeaa.PFlowAdds Go.Proofs.YtlkpapkcgafgeaaW.PrintWords Go.Proofs.YtlkpapkcgafgeaaW.PrintLast
theorem exc_add {l : List S34} {v : Int} : ∀ {f g : List Int}, f.length = g.length → exc l (zipAdd f g) v = exc l f v + exc l g v := by
  unfold zipAdd
  induction l with
  | nil => intro f g _; rw [exc_nil, exc_nil, exc_nil]; omega
  | cons a l ih =>
    intro f g h
    cases f with
    | nil => cases g with
      | nil => simp [exc]
      | cons y g => simp at h
    | cons x f => cases g with
      | nil => simp at h
      | cons y g =>
        simp only [List.zipWith_cons_cons, exc]
        rw [ih (by simpa using h)]
        split <;> split <;> omega
theorem zipAdd_comm {f g : List Int} (h : f.length = g.length) : zipAdd f g = zipAdd g f := by
  refine List.ext_getElem (by rw [zipAdd_length h, zipAdd_length h.symm]; exact h) (fun i h1 h2 => ?_)
  rw [zipAdd_length h] at h1
  rw [zipAdd_get h1 (by omega), zipAdd_get (by omega) h1]
  omega
section
variable {n s t : Int} {l : List S34} {f g : List Int}
theorem add_bad (R : Right n s t l) (F : IsFlow n s t l f) (G : IsFlow n s t l g) (hcap : ∀ a ∈ l, a.f2 < 1000000) (hbad : ∃ j, ∃ (h : j < l.length) (h1 : j < f.length) (h2 : j < g.length), (l[j]).f2 < f[j] + g[j]) :
    Ev (fun k => flow_Add.f k n s t l f g) ([], 3) := by
  have hl := R.len
  have hf := F.within.len
  obtain ⟨j, hj⟩ := hbad
  unfold flow_Add.f
  refine Ev.bind (check_flow R F) ?_
  simp only [if_true]
  refine Ev.bind (check_flow R G) ?_
  simp only [if_true]
  refine Ev.congr (fun k => ?_) (add_bad_loop (n := n) (s := s) (t := t) hl F.within G.within (fun a ha => by have := hcap a ha; omega) f.length 0 (List.replicate f.length 0) (by omega) List.length_replicate ⟨j, Nat.zero_le _, hj⟩)
  rw [if_pos (by omega), if_pos (by omega)]
  rfl
/-- Two flows together, either way. -/
theorem add_both (R : Right n s t l) (F : IsFlow n s t l f) (G : IsFlow n s t l g) (hcap : ∀ a ∈ l, a.f2 < 1000000) :
    (IsFlow n s t l (zipAdd f g) ∧ Ev (fun k => flow_Add.f k n s t l f g) (zipAdd f g, 0) ∧ Ev (fun k => flow_Add.f k n s t l g f) (zipAdd f g, 0)) ∨
    (l.length ≠ 0 ∧ Ev (fun k => flow_Add.f k n s t l f g) ([], 3) ∧ Ev (fun k => flow_Add.f k n s t l g f) ([], 3)) := by
  have hf := F.within.len
  have hg := G.within.len
  by_cases c : ∃ j, ∃ (h : j < l.length) (h1 : j < f.length) (h2 : j < g.length), (l[j]).f2 < f[j] + g[j]
  · right
    obtain ⟨j, h, h1, h2, h3⟩ := c
    exact ⟨by omega, add_bad R F G hcap ⟨j, h, h1, h2, h3⟩, add_bad R G F hcap ⟨j, h, h2, h1, by omega⟩⟩
  · left
    have hfit : ∀ i (h : i < l.length) (h1 : i < f.length) (h2 : i < g.length), f[i] + g[i] ≤ (l[i]).f2 := fun i h h1 h2 => by
      apply Classical.byContradiction
      intro hc
      exact c ⟨i, h, h1, h2, by omega⟩
    refine ⟨⟨Within.of (by rw [zipAdd_length (by omega)]; exact hf) (fun i h h' => ?_), fun v v1 vn vs vt => ?_⟩, add_ev R F G hfit, ?_⟩
    · rw [zipAdd_get (by omega) (by omega)]
      have b1 := F.within.get i h (by omega)
      have b2 := G.within.get i h (by omega)
      have := hfit i h (by omega) (by omega)
      omega
    · rw [exc_add (by omega), F.cons v v1 vn vs vt, G.cons v v1 vn vs vt]; rfl
    · rw [zipAdd_comm (by omega)]
      exact add_ev R G F (fun i h h1 h2 => by have := hfit i h h2 h1; omega)
theorem add_zero (R : Right n s t l) (F : IsFlow n s t l f) : Ev (fun k => flow_Add.f k n s t l f (List.replicate f.length 0)) (f, 0) := by
  have hf := F.within.len
  have Z : IsFlow n s t l (List.replicate f.length 0) := by rw [hf]; exact IsFlow.zeros R.arcs
  have h := add_ev R F Z (fun i h h1 h2 => by
    rw [List.getElem_replicate]
    have := F.within.get i h h1
    omega)
  have e : zipAdd f (List.replicate f.length 0) = f := by
    refine List.ext_getElem (by rw [zipAdd_length (by rw [List.length_replicate])]) (fun i h1 h2 => ?_)
    rw [zipAdd_get h2 (by rw [List.length_replicate]; exact h2), List.getElem_replicate]
    omega
  rw [e] at h
  exact h
/-- More on one arc alone. -/
theorem one_more (R : Right n s t l) (F : IsFlow n s t l f) {a : Int} (a0 : 0 ≤ a) (a1 : a < (l.length : Int)) (hc : rd f a + 1 ≤ (rd_T34 l a).f2) :
    (((rd_T34 l a).f0 = (rd_T34 l a).f1 ∨ ((rd_T34 l a).f0 = s ∨ (rd_T34 l a).f0 = t) ∧ ((rd_T34 l a).f1 = s ∨ (rd_T34 l a).f1 = t)) → Ev (fun k => flow_Check.f k n s t l (f.set a.toNat (rd f a + 1))) 0) ∧
    (¬ ((rd_T34 l a).f0 = (rd_T34 l a).f1 ∨ ((rd_T34 l a).f0 = s ∨ (rd_T34 l a).f0 = t) ∧ ((rd_T34 l a).f1 = s ∨ (rd_T34 l a).f1 = t)) → Ev (fun k => flow_Check.f k n s t l (f.set a.toNat (rd f a + 1))) 9) := by
  have hf := F.within.len
  have hal : a.toNat < l.length := by omega
  have haf : a.toNat < f.length := by omega
  have e1 := rd_nat a0 (by omega) haf
  have e2 := rdT_nat a0 a1 hal
  have b := F.within.get a.toNat hal haf
  rw [e1, e2] at b
  have g := R.arcs _ (List.getElem_mem hal)
  rw [e2] at g
  obtain ⟨g0, g1, g2, g3, _⟩ := g
  have W : Within l (f.set a.toNat (rd f a + 1)) := F.within.set _ _ (by omega) (fun h => by rw [rdT_nat a0 a1 h]; exact hc)
  have hx : ∀ v, exc l (f.set a.toNat (rd f a + 1)) v = exc l f v + ((if (rd_T34 l a).f1 = v then 1 else 0) - (if (rd_T34 l a).f0 = v then 1 else 0)) := fun v => by
    rw [exc_set a.toNat _ v hal haf, e1, e2, show rd f a + 1 - rd f a = 1 by omega]
  refine ⟨fun h => check_flow R ⟨W, fun v v1 vn vs vt => ?_⟩, fun h => ?_⟩
  · rw [hx, F.cons v v1 vn vs vt]
    split <;> split <;> omega
  · by_cases c : (rd_T34 l a).f0 ≠ s ∧ (rd_T34 l a).f0 ≠ t
    · refine check_state R W g0 g1 c.1 c.2 ?_
      rw [hx, F.cons _ g0 g1 c.1 c.2, if_pos rfl, if_neg (by omega)]
      decide
    · have c2 : (rd_T34 l a).f1 ≠ s ∧ (rd_T34 l a).f1 ≠ t := by omega
      refine check_state R W g2 g3 c2.1 c2.2 ?_
      rw [hx, F.cons _ g2 g3 c2.1 c2.2, if_pos rfl, if_neg (by omega)]
      decide
theorem adds_last (R : Right n s t l) (F : IsFlow n s t l f) (hcap : ∀ a ∈ l, a.f2 < 1000000) {a5 e : Int} (w5 : (Lit.int .i64 a5).wf = true) (he : l.length = 0 → e = 0) :
    Ev (fun k => racewaylaw5_FlowAdds.j1 k a5 f e n s t l) true := by
  have hf := F.within.len
  have hl := R.len
  obtain ⟨b0, b1⟩ := wf_bounds w5
  by_cases c : (f.length : Int) = 0
  · refine Ev.step (f := fun _ => some true) (fun k => ?_) (Ev.now _)
    simp only [racewaylaw5_FlowAdds.j1]
    rw [if_pos c, he (by omega)]
    rfl
  · have p := pk_range (c := a5) (n := (f.length : Int)) (by omega)
    obtain ⟨a, ha⟩ : ∃ a, pk a5 (f.length : Int) = a := ⟨_, rfl⟩
    rw [ha] at p
    have bnd := F.within.get a.toNat (by omega) (by omega)
    rw [rd_nat p.1 (by omega) (by omega), rdT_nat p.1 (by omega) (by omega)] at bnd
    have hcp := hcap _ (rdT_mem (l := l) (i := a) (by omega) (by omega))
    have hs : rd (f.set a.toNat (rd f a + 1)) a = rd f a + 1 := by
      rw [rd_set p.1 (by omega) p.1, if_pos rfl]
    have hpk := pick_eq b0 b1 (show (0 : Int) < (f.length : Int) by omega)
    rw [ha] at hpk
    refine Ev.step (f := ?g) (fun k => ?h) ?e
    case h =>
      simp only [racewaylaw5_FlowAdds.j1]
      rw [if_neg c, hpk, Option.bind_some, if_pos (by omega), if_pos (by omega), if_pos (by omega), wrap_id (x := rd f a + 1) (by omega) (by omega), Option.bind_some, hs]
    case e =>
      by_cases c1 : rd f a + 1 > (rd_T34 l a).f2
      · have hck := check_range (n := n) (s := s) (t := t) R (f := f.set a.toNat (rd f a + 1)) (by rw [List.length_set]; exact hf) (fun W => by
          have := W.get a.toNat (by omega) (by rw [List.length_set]; omega)
          rw [List.getElem_set_self, rdT_nat p.1 (by omega) (by omega)] at this
          omega)
        refine Ev.bind hck ?_
        exact Ev.congr (fun k => if_pos c1) (Ev.now true)
      · obtain ⟨h0, h9⟩ := one_more R F (a := a) p.1 (by omega) (by omega)
        have hst := R.ne
        obtain ⟨x, hx⟩ : ∃ x, (rd_T34 l a).f0 = x := ⟨_, rfl⟩
        obtain ⟨y, hy⟩ : ∃ y, (rd_T34 l a).f1 = y := ⟨_, rfl⟩
        rw [hx, hy] at h0 h9
        by_cases fr : x = y ∨ (x = s ∨ x = t) ∧ (y = s ∨ y = t)
        · refine Ev.bind (h0 fr) ?_
          refine Ev.congr (fun k => ?_) (Ev.now true)
          rw [if_neg c1, hx, hy]
          by_cases d1 : x = y
          · rw [if_pos d1]; rfl
          · rw [if_neg d1]
            have fr2 : (x = s ∨ x = t) ∧ (y = s ∨ y = t) := fr.resolve_left d1
            by_cases d2 : x = s
            · rw [if_pos d2]
              by_cases d3 : y = s
              · rw [if_pos d3]; rfl
              · rw [if_neg d3, if_pos (by decide), if_pos (fr2.2.resolve_left d3)]
            · rw [if_neg d2, if_pos (fr2.1.resolve_left d2)]
              by_cases d3 : y = s
              · rw [if_pos d3]; rfl
              · rw [if_neg d3, if_pos (by decide), if_pos (fr2.2.resolve_left d3)]
        · refine Ev.bind (h9 fr) ?_
          refine Ev.congr (fun k => ?_) (Ev.now true)
          rw [if_neg c1, hx, hy]
          have d1 : ¬ x = y := fun h => fr (.inl h)
          rw [if_neg d1]
          by_cases d2 : x = s
          · rw [if_pos d2, if_neg (fun h => fr (.inr ⟨.inl d2, .inl h⟩)), if_neg (by decide), if_neg (fun h => fr (.inr ⟨.inl d2, .inr h⟩))]
            rfl
          · rw [if_neg d2]
            by_cases d4 : x = t
            · rw [if_pos d4, if_neg (fun h => fr (.inr ⟨.inr d4, .inl h⟩)), if_neg (by decide), if_neg (fun h => fr (.inr ⟨.inr d4, .inr h⟩))]
              rfl
            · rw [if_neg d4, if_neg (by decide)]
              rfl
end
theorem FlowAdds : racewaylaw5_FlowAdds.Pure := by
  intro a0 a1 l2 l3 l4 a5 w0 w1 m2 w2 m3 y3 w3 m4 y4 w4 w5
  obtain ⟨n, s, t, l, hmade, n2, n9, R, hl, _, hcap⟩ := made_ev w0 w1 w2
  obtain ⟨f, F, _, hrf⟩ := routed_ev (raws := l3) R (fun a ha => by have := hcap a ha; omega) w3
  obtain ⟨g, G, _, hrg⟩ := routed_ev (raws := l4) R (fun a ha => by have := hcap a ha; omega) w4
  have hf := F.within.len
  have hg := G.within.len
  have hs1 := sumCap_le hcap
  have hz := add_zero R F
  have hsf := same_ev f f (by omega)
  rw [decide_eq_true rfl] at hsf
  have k1 : (0 : Int) ≤ (f.length : Int) := by omega
  have k2 : f.length ≤ 35184372088832 := by omega
  refine Ev.rounds ?_
  unfold racewaylaw5_FlowAdds.f
  refine Ev.bind shown_ev ?_
  simp only [if_true]
  refine Ev.bind hmade (Ev.bind hrf (Ev.bind hrg ?_))
  rcases add_both R F G hcap with ⟨S, h1, h2⟩ | ⟨hne, h1, h2⟩
  · have hzl := zipAdd_length (f := f) (g := g) (by omega)
    have hsz := same_ev (zipAdd f g) (zipAdd f g) (by omega)
    rw [decide_eq_true rfl] at hsz
    refine Ev.bind h1 (Ev.bind h2 ?_)
    simp only [if_pos k1, Int.toNat_natCast, if_pos k2]
    refine Ev.bind hz ?_
    simp only [if_true]
    refine Ev.bind hsz ?_
    simp only [if_true]
    refine Ev.bind hsf ?_
    have hb := exc_bound (l := l) F.within.nonneg t
    have hb2 := exc_bound (l := l) G.within.nonneg t
    have hs2 := F.within.sum
    have hs3 := G.within.sum
    have hval : exc l (zipAdd f g) t = wrap64 (exc l f t + exc l g t) := by
      rw [exc_add (by omega)]
      exact (wrap_id (by omega) (by omega)).symm
    have last := adds_last R F hcap (a5 := a5) (e := 0) w5 (fun _ => rfl)
    refine Ev.step (f := ?g) (fun k => ?h) ?e
    case h =>
      simp only [racewaylaw5_FlowAdds.j0, Bool.not_true]
      rw [if_neg (by decide), if_pos (by trivial)]
    case e =>
      refine Ev.bind (value_flow R F) (Ev.bind (value_flow R G) (Ev.bind (value_flow R S) ?_))
      simp only [if_true]
      exact Ev.congr (fun k => if_pos hval) last
  · have hs0 := same_ev [] [] (by simp)
    rw [decide_eq_true rfl] at hs0
    refine Ev.bind h1 (Ev.bind h2 ?_)
    simp only [if_pos k1, Int.toNat_natCast, if_pos k2]
    refine Ev.bind hz ?_
    simp only [if_true]
    refine Ev.bind hs0 ?_
    simp only [if_true]
    refine Ev.bind hsf ?_
    have last := adds_last R F hcap (a5 := a5) (e := 3) w5 (fun h => absurd h hne)
    refine Ev.step (fun k => ?_) last
    simp only [racewaylaw5_FlowAdds.j0, Bool.not_true]
    rw [if_neg (by decide), if_neg (by decide)]
end Go.Proofs.Ytlkpapkcgafgeaa.Pure
