/- Plain lists and numbers, for the law FlowRoutes: no program and no memory. -/
import Derived.Test.YtbonhjjhohbggaaPFlowRoutesx0
import Derived.Test.YtbonhjjhohbggaaPFlowRoutesx12
import Derived.Test.YtbonhjjhohbggaaPFlowRoutesx15
import Derived.Test.YtbonhjjhohbggaaPFlowRoutesx16
import Derived.Test.YtbonhjjhohbggaaMFlowRoutesBase
import Derived.Test.YtbonhjjhohbggaaMFlowRoutesPick
import Derived.Test.YtbonhjjhohbggaaMFlowRoutesMade
import Derived.Test.YtbonhjjhohbggaaMFlowRoutesFlowmath
import Derived.Test.YtbonhjjhohbggaaMFlowRoutesFlowfun
import Derived.Test.YtbonhjjhohbggaaMFlowRoutesValue
import Derived.Test.YtbonhjjhohbggaaMFlowRoutesExcess
import Derived.Test.YtbonhjjhohbggaaMFlowRoutesWalk
import Derived.Test.YtbonhjjhohbggaaMFlowRoutesRouted
import Derived.Test.YtbonhjjhohbggaaMFlowRoutesShown5
import Derived.Test.YtbonhjjhohbggaaMFlowRoutesTurn
import Derived.Test.YtbonhjjhohbggaaMFlowRoutesCapsum
set_option linter.unusedVariables false
namespace Go.Proofs.Ytbonhjjhohbggaa.Pure
open Go.RowKit Go.Proofs.Ytbonhjjhohbggaa.PFlowRoutes Go.Proofs.YtbonhjjhohbggaaW.PrintWords Go.Proofs.YtbonhjjhohbggaaW.PrintLast
theorem sumTo_bound {g : Int → Int} {M : Int} (hM : 0 ≤ M) (h : ∀ v, -M ≤ g v ∧ g v ≤ M) : ∀ n : Nat, n ≤ 9 → -(n * M) ≤ sumTo g n ∧ sumTo g n ≤ n * M
  | 0, _ => by simp [sumTo]
  | n + 1, hn => by
    have h1 := sumTo_bound hM h n (by omega)
    have h2 := h ((n : Int) + 1)
    have e : ((n + 1 : Nat) : Int) * M = n * M + M := by rw [Int.natCast_succ, Int.add_mul, Int.one_mul]
    rw [e]
    simp only [sumTo]
    omega
theorem turn_good {n : Int} {l : List S38} (h : ∀ a ∈ l, GoodArc n a) : ∀ a ∈ l.map turnArc, GoodArc n a := by
  intro a ha
  obtain ⟨b, hb, rfl⟩ := List.mem_map.1 ha
  obtain ⟨g0, g1, g2, g3, g4⟩ := h b hb
  exact ⟨g2, g3, g0, g1, g4⟩
theorem turn_cap : ∀ l : List S38, sumCap (l.map turnArc) = sumCap l
  | [] => rfl
  | a :: l => by
    simp only [List.map_cons, sumCap]
    rw [turn_cap l]
    rfl
theorem turn_right {n s t : Int} {l : List S38} (R : Right n s t l) : Right n t s (l.map turnArc) :=
  ⟨R.n2, R.n500, R.t1, R.tn, R.s1, R.sn, fun e => R.ne e.symm, by rw [List.length_map]; exact R.len, turn_good R.arcs, by rw [turn_cap]; exact R.sum⟩
theorem turn_exc {v : Int} : ∀ (l : List S38) (f : List Int), exc (l.map turnArc) f v = -exc l f v
  | [], f => by simp [exc]
  | _ :: _, [] => by simp [exc]
  | a :: l, x :: f => by
    have e0 : (turnArc a).f0 = a.f1 := rfl
    have e1 : (turnArc a).f1 = a.f0 := rfl
    simp only [List.map_cons, exc, e0, e1]
    rw [turn_exc l f]
    omega
theorem turn_within : ∀ {l : List S38} {f : List Int}, Within l f → Within (l.map turnArc) f
  | [], [], _ => trivial
  | _ :: _, _ :: _, h => ⟨h.1, h.2.1, turn_within h.2.2⟩
  | [], _ :: _, h => h.elim
  | _ :: _, [], h => h.elim
theorem turn_flow {n s t : Int} {l : List S38} {f : List Int} (F : IsFlow n s t l f) : IsFlow n t s (l.map turnArc) f :=
  ⟨turn_within F.within, fun v h1 h2 h3 h4 => by rw [turn_exc, F.cons v h1 h2 h4 h3]; rfl⟩
theorem ends_zero {n s t : Int} {l : List S38} {f : List Int} (R : Right n s t l) (F : IsFlow n s t l f) : exc l f s = -exc l f t := by
  have n2 := R.n2
  have hn : ((n.toNat : Nat) : Int) = n := by omega
  have h0 := exc_total (l := l) (f := f) (n := n.toNat) (by rw [hn]; exact R.arcs)
  have hst := R.ne
  have e : sumTo (exc l f) n.toNat = sumTo (fun v => (if s = v then exc l f s else 0) + (if t = v then exc l f t else 0)) n.toNat := sumTo_ext (fun v h1 h2 => by
    by_cases c1 : s = v
    · subst c1
      rw [if_pos rfl, if_neg (fun e => hst e.symm)]; omega
    · by_cases c2 : t = v
      · subst c2
        rw [if_neg c1, if_pos rfl]; omega
      · rw [if_neg c1, if_neg c2, F.cons v h1 (by omega) (fun e => c1 e.symm) (fun e => c2 e.symm)]; rfl)
  have s1 := R.s1
  have sn := R.sn
  have t1 := R.t1
  have tn := R.tn
  rw [e, sumTo_add, sumTo_one s _ s1 (by omega), sumTo_one t _ t1 (by omega)] at h0
  omega
/-- The capacity into a node. -/
def inC (t : Int) : List S38 → Int
  | [] => 0
  | a :: l => (if a.f1 = t then a.f2 else 0) + inC t l
theorem inC_nonneg {n t : Int} : ∀ {l : List S38}, (∀ a ∈ l, GoodArc n a) → 0 ≤ inC t l ∧ inC t l ≤ sumCap l
  | [], _ => ⟨Int.le_refl _, Int.le_refl _⟩
  | a :: l, h => by
    have h1 := inC_nonneg (t := t) (l := l) (fun x hx => h x (List.mem_cons_of_mem _ hx))
    have h2 := (h a List.mem_cons_self).2.2.2.2
    simp only [inC, sumCap]
    split <;> omega
theorem exc_le_inC {t : Int} : ∀ {l : List S38} {f : List Int}, Within l f → exc l f t ≤ inC t l
  | [], [], _ => by simp [exc, inC]
  | a :: l, x :: f, h => by
    have h1 := exc_le_inC (t := t) h.2.2
    have h2 := h.1
    have h3 := h.2.1
    simp only [exc, inC]
    split <;> split <;> omega
  | [], _ :: _, h => h.elim
  | _ :: _, [], h => h.elim
theorem in_loop {n s t V C : Int} {l : List S38} (hg : ∀ a ∈ l, GoodArc n a) (hl : l.length ≤ 24) (hV : V ≤ C) (hC : C ≤ 24000000) (d : Nat) :
    ∀ (i : Nat) (x : Int), i + d = l.length → 0 ≤ x → x + inC t (l.drop i) = C → Ev (fun k => racewaylaw5_FlowRoutes.l1 k V 0 x (i : Int) n s t l) true := by
  induction d with
  | zero =>
    intro i x hi hx he
    rw [List.drop_of_length_le (by omega)] at he
    simp only [inC] at he
    refine Ev.step (f := fun _ => some true) (fun k => ?_) (Ev.now true)
    simp only [racewaylaw5_FlowRoutes.l1]
    rw [if_neg (by omega), if_pos trivial, decide_eq_true (by omega)]
  | succ d ih =>
    intro i x hi hx he
    have hil : i < l.length := by omega
    have hc := (hg l[i] (List.getElem_mem hil)).2.2.2.2
    have hn := (inC_nonneg (t := t) (l := l.drop (i + 1)) (fun a ha => hg a (List.mem_of_mem_drop ha))).1
    rw [List.drop_eq_getElem_cons hil] at he
    simp only [inC] at he
    have hr := rdT_get hil
    have hw : wrap64 ((i : Int) + 1) = ((i + 1 : Nat) : Int) := wrap_id (by omega) (by omega)
    by_cases c : (l[i]).f1 = t
    · rw [if_pos c] at he
      refine Ev.step (fun k => ?_) (ih (i + 1) (x + (l[i]).f2) (by omega) (by omega) (by omega))
      simp only [racewaylaw5_FlowRoutes.l1]
      rw [if_pos (by omega), if_pos (by omega), hr, if_pos c, hw, wrap_id (by omega) (by omega)]
    · rw [if_neg c] at he
      refine Ev.step (fun k => ?_) (ih (i + 1) x (by omega) hx (by omega))
      simp only [racewaylaw5_FlowRoutes.l1]
      rw [if_pos (by omega), if_pos (by omega), hr, if_neg c, hw]
theorem sum_loop {n s t V : Int} {l : List S38} {f : List Int} (R : Right n s t l) (F : IsFlow n s t l f) (n9 : n ≤ 9) (hl : l.length ≤ 24) (hcap : ∀ a ∈ l, a.f2 < 1000000) (hV : V = exc l f t) (d : Nat) :
    ∀ i : Nat, (i : Int) + d = n → Ev (fun k => racewaylaw5_FlowRoutes.l0 k f V (sumTo (exc l f) i) ((i : Int) + 1) n s t l) true := by
  have hs1 := sumCap_le hcap
  have hS := F.within.sum
  have hb := fun v => exc_bound (l := l) F.within.nonneg v
  have hbM : ∀ v, -24000000 ≤ exc l f v ∧ exc l f v ≤ 24000000 := fun v => by have := hb v; omega
  induction d with
  | zero =>
    intro i hi
    have hin : ((i : Nat) : Int) = n := by omega
    have h0 := exc_total (l := l) (f := f) (n := i) (by rw [hin]; exact R.arcs)
    have hC := inC_nonneg (t := t) R.arcs
    have hle := exc_le_inC (t := t) F.within
    refine Ev.step (fun k => ?_) (in_loop (n := n) (s := s) (t := t) (V := V) (C := inC t l) R.arcs hl (by omega) (by omega) l.length 0 0 (by omega) (by omega) (by rw [List.drop_zero]; omega))
    simp only [racewaylaw5_FlowRoutes.l0]
    rw [if_neg (by omega), h0]
    rfl
  | succ d ih =>
    intro i hi
    have q1 : (1 : Int) ≤ (i : Int) + 1 := by clear hs1 hS hb hbM; omega
    have q2 : (i : Int) + 1 ≤ n := by clear hs1 hS hb hbM; omega
    have q3 : i ≤ 9 := by clear hs1 hS hb hbM; omega
    have q4 : ((i + 1 : Nat) : Int) + (d : Int) = n := by clear hs1 hS hb hbM; omega
    have e2 : wrap64 ((i : Int) + 1 + 1) = ((i + 1 : Nat) : Int) + 1 := wrap_id (by clear hs1 hS hb hbM; omega) (by clear hs1 hS hb hbM; omega)
    have hsb := sumTo_bound (M := 24000000) (by omega) hbM i q3
    have h1 := hbM ((i : Int) + 1)
    have e1 : wrap64 (sumTo (exc l f) i + exc l f ((i : Int) + 1)) = sumTo (exc l f) (i + 1) := by
      rw [wrap_id (by omega) (by omega)]; rfl
    clear hsb h1 hs1 hS hb hbM
    refine Ev.step (f := fun k => (flow_Excess.f k n s t l f ((i : Int) + 1)).bind fun bt229 => (if bt229.2 = 0 then (if (i : Int) + 1 = s then (racewaylaw5_FlowRoutes.l0 k f V (wrap64 (sumTo (exc l f) i + bt229.1)) (wrap64 ((i : Int) + 1 + 1)) n s t l) else (if (i : Int) + 1 = t then (racewaylaw5_FlowRoutes.l0 k f V (wrap64 (sumTo (exc l f) i + bt229.1)) (wrap64 ((i : Int) + 1 + 1)) n s t l) else (if bt229.1 = 0 then (racewaylaw5_FlowRoutes.l0 k f V (wrap64 (sumTo (exc l f) i + bt229.1)) (wrap64 ((i : Int) + 1 + 1)) n s t l) else (some false)))) else (some false))) (fun k => ?_) (Ev.bind (excess_ev R F.within (v := (i : Int) + 1) q1 q2) (Ev.congr (fun k => ?_) (ih (i + 1) q4)))
    · simp only [racewaylaw5_FlowRoutes.l0]
      rw [if_pos q2]
    · simp only [if_true, e1, e2]
      by_cases c1 : (i : Int) + 1 = s
      · rw [if_pos c1]
      · by_cases c2 : (i : Int) + 1 = t
        · rw [if_neg c1, if_pos c2]
        · rw [if_neg c1, if_neg c2, if_pos (F.cons _ q1 q2 c1 c2)]
theorem FlowRoutes : racewaylaw5_FlowRoutes.Pure := by
  intro a0 a1 l2 l3 w0 w1 m2 w2 m3 y3 w3
  obtain ⟨n, s, t, l, hmade, n2, n9, R, hl, _, hcap⟩ := made_ev w0 w1 w2
  obtain ⟨f, F, hV0, hrout⟩ := routed_ev (raws := l3) R (fun a ha => by have := hcap a ha; omega) w3
  have hs1 := sumCap_le hcap
  have hS := F.within.sum
  have hb := exc_bound (l := l) F.within.nonneg t
  have hes := ends_zero R F
  have ev1 := value_flow R F
  have ev2 := excess_ev R F.within (v := s) R.s1 R.sn
  have ev3 := value_flow (turn_right R) (turn_flow F)
  have hte : exc (l.map turnArc) f s = exc l f t := by rw [turn_exc, hes]; omega
  rw [hte] at ev3
  have ev4 := check_flow R F
  have hlp := sum_loop R F n9 hl hcap rfl n.toNat 0 (by omega)
  have ht : net_Turn.f n s t l = some (n, t, s, l.map turnArc) := turn_eq (by omega)
  refine Ev.rounds ?_
  unfold racewaylaw5_FlowRoutes.f
  refine Ev.bind shown_ev ?_
  simp only [if_true]
  refine Ev.bind hmade (Ev.bind hrout (Ev.bind ev1 (Ev.bind ev2 ?_)))
  simp only [ht, Option.bind_some]
  refine Ev.bind ev3 (Ev.bind ev4 ?_)
  simp only [if_true]
  have e1 : wrap64 (-exc l f t) = -exc l f t := wrap_id (by omega) (by omega)
  have e2 : decide (exc l f t < 0) = false := decide_eq_false (by omega)
  simp only [e1, hes, if_true, e2]
  refine Ev.step (fun k => ?_) hlp
  simp only [racewaylaw5_FlowRoutes.j0]
  rw [if_neg (by decide)]
  rfl
end Go.Proofs.Ytbonhjjhohbggaa.Pure
