/- Plain lists and numbers, for the law FlowRoutes: no program and no memory. -/
import Derived.Test.YtbonhjjhohbggaaPFlowRoutesx0
import Derived.Test.YtbonhjjhohbggaaPFlowRoutesx1
import Derived.Test.YtbonhjjhohbggaaPFlowRoutesx4
import Derived.Test.YtbonhjjhohbggaaPFlowRoutesx5
import Derived.Test.YtbonhjjhohbggaaMFlowRoutesBase
import Derived.Test.YtbonhjjhohbggaaMFlowRoutesFlowmath
set_option linter.unusedVariables false
namespace Go.Proofs.Ytbonhjjhohbggaa.Pure
open Go.RowKit Go.Proofs.Ytbonhjjhohbggaa.PFlowRoutes Go.Proofs.YtbonhjjhohbggaaW.PrintWords Go.Proofs.YtbonhjjhohbggaaW.PrintLast
theorem rd_set {xs : List Int} {j u x : Int} (h0 : 0 ≤ j) (h1 : j < (xs.length : Int)) (hu : 0 ≤ u) : rd (xs.set j.toNat x) u = if j = u then x else rd xs u := by
  unfold rd
  rw [List.getD_eq_getElem?_getD, List.getD_eq_getElem?_getD, List.getElem?_set]
  by_cases e : j = u
  · subst e
    rw [if_pos rfl, if_pos (by omega), if_pos rfl]; rfl
  · rw [if_neg (by omega), if_neg e]
theorem sumL_drop {f : List Int} {i : Nat} (h : i < f.length) : sumL (f.drop i) = f[i] + sumL (f.drop (i + 1)) := by
  rw [List.drop_eq_getElem_cons h]; rfl
theorem sumL_nonneg : ∀ {g : List Int}, (∀ x ∈ g, 0 ≤ x) → 0 ≤ sumL g
  | [], _ => Int.le_refl _
  | y :: g, h => by
    have h1 := sumL_nonneg (g := g) (fun x hx => h x (List.mem_cons_of_mem _ hx))
    have h2 := h y List.mem_cons_self
    simp only [sumL]; omega
theorem exc_loop {n : Int} {l : List S38} {f : List Int} (hg : ∀ a ∈ l, GoodArc n a) (hf : ∀ x ∈ f, 0 ≤ x) (hlen : f.length = l.length) (hS : sumL f ≤ 4611686018427387903) (hl : l.length ≤ 2000) (d : Nat) :
    ∀ (i : Nat) (out : List Int), i + d = l.length → (out.length : Int) = n + 1 → (∀ v, 0 ≤ v → v ≤ n → -(sumL f - sumL (f.drop i)) ≤ rd out v ∧ rd out v ≤ sumL f - sumL (f.drop i)) →
      ∃ out', Ev (fun k => flow_excesses.l0 k f out l (l.length : Int) (i : Int)) out' ∧ (out'.length : Int) = n + 1 ∧ ∀ v, 0 ≤ v → v ≤ n → rd out' v = rd out v + exc (l.drop i) (f.drop i) v := by
  induction d with
  | zero =>
    intro i out hi ho _
    refine ⟨out, Ev.step (f := fun _ => some out) (fun k => ?_) (Ev.now _), ho, fun v _ _ => ?_⟩
    · simp only [flow_excesses.l0]
      rw [if_neg (by omega)]
    · rw [List.drop_of_length_le (show l.length ≤ i by omega), exc_nil]; omega
  | succ d ih =>
    intro i out hi ho hb
    have hil : i < l.length := by omega
    have hif : i < f.length := by omega
    obtain ⟨g0, g1, g2, g3, _⟩ := hg l[i] (List.getElem_mem hil)
    have hx0 := hf f[i] (List.getElem_mem hif)
    have hsd := sumL_drop hif
    have hsn := sumL_nonneg (g := f.drop (i + 1)) (fun x hx => hf x (List.mem_of_mem_drop hx))
    have b0 := hb (l[i]).f0 (by omega) g1
    have e1 : wrap64 (rd out (l[i]).f0 - f[i]) = rd out (l[i]).f0 - f[i] := wrap_id (by omega) (by omega)
    have hr1 : ∀ u, 0 ≤ u → rd (out.set ((l[i]).f0).toNat (rd out (l[i]).f0 - f[i])) u = if (l[i]).f0 = u then rd out (l[i]).f0 - f[i] else rd out u := fun u hu => rd_set (by omega) (by omega) hu
    have b1 := hb (l[i]).f1 (by omega) g3
    have e2 : wrap64 (rd (out.set ((l[i]).f0).toNat (rd out (l[i]).f0 - f[i])) (l[i]).f1 + f[i]) = rd (out.set ((l[i]).f0).toNat (rd out (l[i]).f0 - f[i])) (l[i]).f1 + f[i] := by
      have := hr1 (l[i]).f1 (by omega)
      rw [this]
      split <;> exact wrap_id (by omega) (by omega)
    have hr2 : ∀ u, 0 ≤ u → rd ((out.set ((l[i]).f0).toNat (rd out (l[i]).f0 - f[i])).set ((l[i]).f1).toNat (rd (out.set ((l[i]).f0).toNat (rd out (l[i]).f0 - f[i])) (l[i]).f1 + f[i])) u = rd out u + ((if (l[i]).f1 = u then f[i] else 0) - (if (l[i]).f0 = u then f[i] else 0)) := by
      intro u hu
      rw [rd_set (by omega) (by rw [List.length_set]; omega) hu, hr1 (l[i]).f1 (by omega), hr1 u hu]
      by_cases c1 : (l[i]).f1 = u
      · by_cases c0 : (l[i]).f0 = u
        · rw [if_pos c1, if_pos (by omega), if_pos c1, if_pos c0, c0]; omega
        · rw [if_pos c1, if_neg (by omega), if_pos c1, if_neg c0, c1]; omega
      · by_cases c0 : (l[i]).f0 = u
        · rw [if_neg c1, if_pos c0, if_neg c1, if_pos c0, c0]; omega
        · rw [if_neg c1, if_neg c0, if_neg c1, if_neg c0]; omega
    obtain ⟨Y, hYd⟩ : ∃ Y, ((out.set ((l[i]).f0).toNat (rd out (l[i]).f0 - f[i])).set ((l[i]).f1).toNat (rd (out.set ((l[i]).f0).toNat (rd out (l[i]).f0 - f[i])) (l[i]).f1 + f[i])) = Y := ⟨_, rfl⟩
    rw [hYd] at hr2
    obtain ⟨out', h1, h2, h3⟩ := ih (i + 1) Y (by omega) (by rw [← hYd, List.length_set, List.length_set]; exact ho) (fun v hv0 hv1 => by
      have hbv := hb v hv0 hv1
      have e := hr2 v hv0
      rw [e]
      by_cases c1 : (l[i]).f1 = v
      · by_cases c0 : (l[i]).f0 = v
        · rw [if_pos c1, if_pos c0]; omega
        · rw [if_pos c1, if_neg c0]; omega
      · by_cases c0 : (l[i]).f0 = v
        · rw [if_neg c1, if_pos c0]; omega
        · rw [if_neg c1, if_neg c0]; omega)
    refine ⟨out', Ev.step (fun k => ?_) h1, h2, fun v hv0 hv1 => ?_⟩
    · simp only [flow_excesses.l0]
      rw [if_pos (by omega), if_pos (by omega), if_pos (by omega), rdT_get hil, rd_get hif, if_pos (by omega), if_pos (by omega), if_pos (by omega), e1]
      simp only [Option.bind_some]
      rw [if_pos (by omega), if_pos (by omega), e2, wrap_id (by omega) (by omega), hYd]
      rfl
    · rw [h3 v hv0 hv1, hr2 v hv0, List.drop_eq_getElem_cons hil, List.drop_eq_getElem_cons hif]
      simp only [exc]; omega
theorem rd_replicate (m : Nat) (v : Int) : rd (List.replicate m 0) v = 0 := by
  unfold rd
  rw [List.getD_eq_getElem?_getD, List.getElem?_replicate]
  split <;> rfl
/-- All excesses. -/
theorem excesses_ev {n s t : Int} {l : List S38} {f : List Int} (R : Right n s t l) (W : Within l f) :
    ∃ out, Ev (fun k => flow_excesses.f k n s t l f) out ∧ (out.length : Int) = n + 1 ∧ ∀ v, 0 ≤ v → v ≤ n → rd out v = exc l f v := by
  have h1 := R.n2
  have h2 := R.n500
  have hs := W.sum
  have hR := R.sum
  obtain ⟨out, ho, hl, hv⟩ := exc_loop R.arcs W.nonneg W.len (by omega) R.len l.length 0 (List.replicate (n + 1).toNat 0) (by omega) (by simp; omega) (fun v _ _ => by rw [rd_replicate, List.drop_zero]; omega)
  refine ⟨out, Ev.congr (fun k => ?_) ho, hl, fun v h0 h3 => ?_⟩
  · unfold flow_excesses.f
    rw [wrap_id (x := n + 1) (by omega) (by omega), if_pos (by omega), if_pos (by omega)]
    rfl
  · rw [hv v h0 h3, rd_replicate, List.drop_zero, List.drop_zero]; omega
theorem within_loop {n s t : Int} {l : List S38} {f : List Int} (W : Within l f) (hl : l.length ≤ 2000) (d : Nat) : ∀ i : Nat, i + d = f.length → Ev (fun k => flow_within.l0 k f (f.length : Int) (i : Int) n s t l) 0 := by
  have hlen := W.len
  induction d with
  | zero =>
    intro i hi
    refine Ev.step (f := fun _ => some 0) (fun k => ?_) (Ev.now _)
    simp only [flow_within.l0]
    rw [if_neg (by omega)]
  | succ d ih =>
    intro i hi
    have hif : i < f.length := by omega
    have hil : i < l.length := by omega
    have hb := W.get i hil hif
    refine Ev.step (fun k => ?_) (ih (i + 1) (by omega))
    simp only [flow_within.l0]
    rw [if_pos (by omega), if_pos (by omega), if_pos (by omega), rd_get hif, rdT_get hil, if_neg (by omega), if_pos (by omega), if_neg (by omega), wrap_id (by omega) (by omega)]
    rfl
theorem within_yes {n s t : Int} {l : List S38} {f : List Int} (R : Right n s t l) (W : Within l f) : Ev (fun k => flow_within.f k n s t l f) 0 := by
  have hlen := W.len
  refine Ev.congr (fun k => ?_) (within_loop (n := n) (s := s) (t := t) W R.len f.length 0 (by omega))
  unfold flow_within.f
  rw [R.check]
  simp only [Option.bind_some, if_true]
  rw [if_pos (by omega)]
  rfl
theorem within_bad {n s t : Int} {l : List S38} {f : List Int} (hlen : f.length = l.length) (hl : l.length ≤ 2000) (d : Nat) : ∀ i : Nat, i + d = f.length → (∃ j, i ≤ j ∧ ∃ (h : j < l.length) (h' : j < f.length), ¬ (0 ≤ f[j] ∧ f[j] ≤ (l[j]).f2)) →
    Ev (fun k => flow_within.l0 k f (f.length : Int) (i : Int) n s t l) 3 := by
  induction d with
  | zero =>
    intro i hi ⟨j, h1, h2, h3, _⟩
    omega
  | succ d ih =>
    intro i hi ⟨j, h1, h2, h3, h4⟩
    have hif : i < f.length := by omega
    have hil : i < l.length := by omega
    by_cases c0 : f[i] < 0
    · refine Ev.step (f := fun _ => some 3) (fun k => ?_) (Ev.now _)
      simp only [flow_within.l0]
      rw [if_pos (by omega), if_pos (by omega), if_pos (by omega), rd_get hif, if_pos c0]
    · by_cases c1 : f[i] > (l[i]).f2
      · refine Ev.step (f := fun _ => some 3) (fun k => ?_) (Ev.now _)
        simp only [flow_within.l0]
        rw [if_pos (by omega), if_pos (by omega), if_pos (by omega), rd_get hif, rdT_get hil, if_neg c0, if_pos (by omega), if_pos c1]
      · have hne : i ≠ j := by
          rintro rfl
          exact h4 ⟨by omega, by omega⟩
        refine Ev.step (fun k => ?_) (ih (i + 1) (by omega) ⟨j, by omega, h2, h3, h4⟩)
        simp only [flow_within.l0]
        rw [if_pos (by omega), if_pos (by omega), if_pos (by omega), rd_get hif, rdT_get hil, if_neg c0, if_pos (by omega), if_neg c1, wrap_id (by omega) (by omega)]
        rfl
theorem within_no {n s t : Int} {l : List S38} {f : List Int} (R : Right n s t l) (hlen : f.length = l.length) (W : ¬ Within l f) : Ev (fun k => flow_within.f k n s t l f) 3 := by
  have hex : ∃ j, 0 ≤ j ∧ ∃ (h : j < l.length) (h' : j < f.length), ¬ (0 ≤ f[j] ∧ f[j] ≤ (l[j]).f2) := by
    apply Classical.byContradiction
    intro hn
    refine W (Within.of hlen fun i h h' => ?_)
    apply Classical.byContradiction
    intro hb
    exact hn ⟨i, Nat.zero_le _, h, h', hb⟩
  refine Ev.congr (fun k => ?_) (within_bad (n := n) (s := s) (t := t) hlen R.len f.length 0 (by omega) hex)
  unfold flow_within.f
  rw [R.check]
  simp only [Option.bind_some, if_true]
  rw [if_pos (by omega)]
  rfl
theorem within_count {n s t : Int} {l : List S38} {f : List Int} (R : Right n s t l) (hlen : f.length ≠ l.length) : Ev (fun k => flow_within.f k n s t l f) 6 := by
  refine Ev.congr (f := fun _ => some 6) (fun k => ?_) (Ev.now _)
  unfold flow_within.f
  rw [R.check]
  simp only [Option.bind_some, if_true]
  rw [if_neg (by omega)]
theorem check_loop {n s t : Int} {l : List S38} {x : List Int} (hn : n ≤ 500) (hx : (x.length : Int) = n + 1) (d : Nat) : ∀ i : Nat, (i : Int) + d = n → (∀ v, (i : Int) < v → v ≤ n → v ≠ s → v ≠ t → rd x v = 0) →
    Ev (fun k => flow_Check.l0 k x n (i : Int) n s t l) 0 := by
  induction d with
  | zero =>
    intro i hi _
    refine Ev.step (f := fun _ => some 0) (fun k => ?_) (Ev.now _)
    simp only [flow_Check.l0]
    rw [if_neg (by omega)]
  | succ d ih =>
    intro i hi hz
    refine Ev.step (fun k => ?_) (ih (i + 1) (by omega) (fun v h1 h2 h3 h4 => hz v (by omega) h2 h3 h4))
    simp only [flow_Check.l0]
    rw [if_pos (by omega), wrap_id (by omega) (by omega)]
    by_cases c1 : (i : Int) + 1 = s
    · rw [if_pos c1]; rfl
    · by_cases c2 : (i : Int) + 1 = t
      · rw [if_neg c1, if_pos c2]; rfl
      · rw [if_neg c1, if_neg c2, if_pos (by omega), if_pos (by omega), if_pos (hz _ (by omega) (by omega) c1 c2)]; rfl
theorem check_bad {n s t : Int} {l : List S38} {x : List Int} (hn : n ≤ 500) (hx : (x.length : Int) = n + 1) (d : Nat) : ∀ i : Nat, (i : Int) + d = n → (∃ v, (i : Int) < v ∧ v ≤ n ∧ v ≠ s ∧ v ≠ t ∧ rd x v ≠ 0) →
    Ev (fun k => flow_Check.l0 k x n (i : Int) n s t l) 9 := by
  induction d with
  | zero => intro i hi ⟨v, h1, h2, _⟩; omega
  | succ d ih =>
    intro i hi ⟨v, h1, h2, h3, h4, h5⟩
    by_cases c1 : (i : Int) + 1 = s
    · refine Ev.step (fun k => ?_) (ih (i + 1) (by omega) ⟨v, by omega, h2, h3, h4, h5⟩)
      simp only [flow_Check.l0]
      rw [if_pos (by omega), wrap_id (by omega) (by omega), if_pos c1]; rfl
    · by_cases c2 : (i : Int) + 1 = t
      · refine Ev.step (fun k => ?_) (ih (i + 1) (by omega) ⟨v, by omega, h2, h3, h4, h5⟩)
        simp only [flow_Check.l0]
        rw [if_pos (by omega), wrap_id (by omega) (by omega), if_neg c1, if_pos c2]; rfl
      · by_cases c3 : rd x ((i : Int) + 1) = 0
        · refine Ev.step (fun k => ?_) (ih (i + 1) (by omega) ⟨v, by
            by_cases e : v = (i : Int) + 1
            · rw [e] at h5; exact absurd c3 h5
            · omega, h2, h3, h4, h5⟩)
          simp only [flow_Check.l0]
          rw [if_pos (by omega), wrap_id (by omega) (by omega), if_neg c1, if_neg c2, if_pos (by omega), if_pos (by omega), if_pos c3]; rfl
        · refine Ev.step (f := fun _ => some 9) (fun k => ?_) (Ev.now _)
          simp only [flow_Check.l0]
          rw [if_pos (by omega), wrap_id (by omega) (by omega), if_neg c1, if_neg c2, if_pos (by omega), if_pos (by omega), if_neg c3]
theorem check_flow {n s t : Int} {l : List S38} {f : List Int} (R : Right n s t l) (F : IsFlow n s t l f) : Ev (fun k => flow_Check.f k n s t l f) 0 := by
  obtain ⟨x, h1, h2, h3⟩ := excesses_ev R F.within
  have hn := R.n2
  unfold flow_Check.f
  refine Ev.bind (within_yes R F.within) ?_
  simp only [if_true]
  refine Ev.bind h1 ?_
  exact check_loop R.n500 h2 n.toNat 0 (by omega) (fun v hv1 hv2 hv3 hv4 => by rw [h3 v (by omega) hv2]; exact F.cons v (by omega) hv2 hv3 hv4)
theorem check_state {n s t : Int} {l : List S38} {f : List Int} (R : Right n s t l) (W : Within l f) {v : Int} (v1 : 1 ≤ v) (vn : v ≤ n) (vs : v ≠ s) (vt : v ≠ t) (hv : exc l f v ≠ 0) : Ev (fun k => flow_Check.f k n s t l f) 9 := by
  obtain ⟨x, h1, h2, h3⟩ := excesses_ev R W
  have hn := R.n2
  unfold flow_Check.f
  refine Ev.bind (within_yes R W) ?_
  simp only [if_true]
  refine Ev.bind h1 ?_
  exact check_bad R.n500 h2 n.toNat 0 (by omega) ⟨v, by omega, vn, vs, vt, by rw [h3 v (by omega) vn]; exact hv⟩
theorem check_range {n s t : Int} {l : List S38} {f : List Int} (R : Right n s t l) (hlen : f.length = l.length) (W : ¬ Within l f) : Ev (fun k => flow_Check.f k n s t l f) 3 := by
  unfold flow_Check.f
  refine Ev.bind (within_no R hlen W) ?_
  exact Ev.congr (fun k => if_neg (by decide)) (Ev.now 3)
end Go.Proofs.Ytbonhjjhohbggaa.Pure
