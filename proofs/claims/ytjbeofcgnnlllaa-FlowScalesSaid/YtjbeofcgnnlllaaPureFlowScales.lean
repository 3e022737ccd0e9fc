/- Plain lists and numbers, for the law FlowScales: no program and no memory. -/
import Derived.Test.YtjbeofcgnnlllaaPFlowScalesx0
import Derived.Test.YtjbeofcgnnlllaaPFlowScalesx7
import Derived.Test.YtjbeofcgnnlllaaPFlowScalesx14
import Derived.Test.YtjbeofcgnnlllaaMFlowScalesBase
import Derived.Test.YtjbeofcgnnlllaaMFlowScalesPick
import Derived.Test.YtjbeofcgnnlllaaMFlowScalesMade
import Derived.Test.YtjbeofcgnnlllaaMFlowScalesFlowmath
import Derived.Test.YtjbeofcgnnlllaaMFlowScalesFlowfun
import Derived.Test.YtjbeofcgnnlllaaMFlowScalesValue
import Derived.Test.YtjbeofcgnnlllaaMFlowScalesWalk
import Derived.Test.YtjbeofcgnnlllaaMFlowScalesRouted
import Derived.Test.YtjbeofcgnnlllaaMFlowScalesSame
import Derived.Test.YtjbeofcgnnlllaaMFlowScalesAdd
set_option linter.unusedVariables false
namespace Go.Proofs.Ytjbeofcgnnlllaa.Pure
open Go.RowKit Go.Proofs.Ytjbeofcgnnlllaa.PFlowScales Go.Proofs.YtjbeofcgnnlllaaW.PrintWords Go.Proofs.YtjbeofcgnnlllaaW.PrintLast
theorem shown_ev : Ev (fun k => racewaylaw5_shown.f k) true := by
  have R : Right 2 1 2 [(⟨1, 2, 5⟩ : S28)] := ⟨by omega, by omega, by omega, by omega, by omega, by omega, by omega, by simp, fun a ha => by
    obtain rfl := List.mem_singleton.1 ha
    exact ⟨by decide, by decide, by decide, by decide, by decide⟩, by decide⟩
  have F : IsFlow 2 1 2 [(⟨1, 2, 5⟩ : S28)] [3] := ⟨⟨by decide, by decide, trivial⟩, fun v h1 h2 h3 h4 => by omega⟩
  unfold racewaylaw5_shown.f
  refine Ev.bind (value_flow R F) ?_
  exact Ev.congr (fun k => by simp [exc]) (Ev.now true)
def scaleArc (x : Int) (a : S28) : S28 := ⟨a.f0, a.f1, x * a.f2⟩
theorem scale_within {x : Int} (hx : 1 ≤ x) : ∀ {l : List S28} {f : List Int}, Within l f → Within (l.map (scaleArc x)) (f.map (x * ·))
  | [], [], _ => trivial
  | a :: l, y :: f, h => ⟨Int.mul_nonneg (by omega) h.1, Int.mul_le_mul_of_nonneg_left h.2.1 (by omega), scale_within hx h.2.2⟩
  | [], _ :: _, h => h.elim
  | _ :: _, [], h => h.elim
theorem scale_exc {x v : Int} : ∀ {l : List S28} {f : List Int}, exc (l.map (scaleArc x)) (f.map (x * ·)) v = x * exc l f v
  | [], f => by rw [List.map_nil, exc_nil, exc_nil, Int.mul_zero]
  | a :: l, [] => by simp [exc]
  | a :: l, y :: f => by
    simp only [List.map_cons, exc, scaleArc]
    rw [scale_exc, Int.mul_add, Int.mul_sub]
    split <;> split <;> simp
theorem scale_sum {x : Int} : ∀ {l : List S28}, sumCap (l.map (scaleArc x)) = x * sumCap l
  | [] => by simp [sumCap]
  | a :: l => by
    simp only [List.map_cons, sumCap, scaleArc]
    rw [scale_sum, Int.mul_add]
theorem sumCap_le {l : List S28} (h : ∀ a ∈ l, a.f2 < 1000000) : sumCap l ≤ 1000000 * l.length := by
  induction l with
  | nil => simp [sumCap]
  | cons a l ih =>
    have h1 := ih (fun x hx => h x (List.mem_cons_of_mem _ hx))
    have h2 := h a List.mem_cons_self
    simp only [sumCap, List.length_cons]; omega
theorem scale_loop {n s t x : Int} {l : List S28} {f : List Int} (hx : 1 ≤ x) (hx2 : x ≤ 1000) (W : Within l f) (hcap : ∀ a ∈ l, a.f2 < 1000000) (hl : l.length ≤ 24) {r : Bool} (d : Nat)
    (H : Ev (fun k => racewaylaw5_FlowScales.l0 k f x (f.map (x * ·)) (f.length : Int) n s t l n s t (l.map (scaleArc x))) r) :
    ∀ (i : Nat) (g : List Int), i + d = f.length → g.length = f.length → (∀ j (h : j < g.length) (h1 : j < f.length), j < i → g[j] = x * f[j]) →
      Ev (fun k => racewaylaw5_FlowScales.l0 k f x g (i : Int) n s t l n s t ((l.take i).map (scaleArc x))) r := by
  have hf := W.len
  induction d with
  | zero =>
    intro i g hi hg hv
    have e : g = f.map (x * ·) := by
      refine List.ext_getElem (by rw [List.length_map]; exact hg) (fun j h1 h2 => ?_)
      rw [List.getElem_map]
      exact hv j h1 (by omega) (by omega)
    have e2 : l.take i = l := List.take_of_length_le (by omega)
    rw [e, e2, show i = f.length by omega]
    exact H
  | succ d ih =>
    intro i g hi hg hv
    have h1 : i < f.length := by omega
    have h3 : i < l.length := by omega
    have b1 := W.get i h3 h1
    have b2 := hcap _ (List.getElem_mem h3)
    have m1 : 0 ≤ x * f[i] := Int.mul_nonneg (by omega) b1.1
    have m2 : x * f[i] ≤ 1000 * 1000000 := Int.mul_le_mul hx2 (by omega) b1.1 (by omega)
    have m3 : 0 ≤ x * (l[i]).f2 := Int.mul_nonneg (by omega) (by omega)
    have m4 : x * (l[i]).f2 ≤ 1000 * 1000000 := Int.mul_le_mul hx2 (by omega) (by omega) (by omega)
    have et : (l.take (i + 1)).map (scaleArc x) = (l.take i).map (scaleArc x) ++ [scaleArc x l[i]] := by
      rw [List.take_succ_eq_append_getElem h3, List.map_append]; rfl
    have hlm : ((l.take i).map (scaleArc x)).length < 5864062014805 := by rw [List.length_map, List.length_take]; omega
    refine Ev.step (fun k => ?_) (ih (i + 1) (g.set i (x * f[i])) (by omega) (by rw [List.length_set]; exact hg) (fun j q q1 hj => by
      rw [List.getElem_set]
      by_cases e : i = j
      · subst e; rw [if_pos rfl]
      · rw [if_neg e]; exact hv j (by rw [List.length_set] at q; exact q) q1 (by omega)))
    simp only [racewaylaw5_FlowScales.l0]
    rw [if_pos (by omega), if_pos (by omega), if_pos (by omega), if_pos hlm, if_pos (by omega), rd_get h1, rdT_get h3, wrap_id (x := x * f[i]) (by omega) (by omega), wrap_id (x := x * (l[i]).f2) (by omega) (by omega), wrap_id (x := (i : Int) + 1) (by omega) (by omega), et]
    rfl
theorem add_zeros : ∀ (f : List Int), zipAdd f (List.replicate f.length 0) = f
  | [] => rfl
  | x :: f => by
    have := add_zeros f
    unfold zipAdd at this ⊢
    simp [List.replicate_succ, this]
theorem FlowScales : racewaylaw5_FlowScales.Pure := by
  intro a0 a1 l2 l3 a4 w0 w1 m2 w2 m3 y3 w3 w4
  obtain ⟨n, s, t, l, hmade, n2, n9, R, hl, _, hcap⟩ := made_ev w0 w1 w2
  obtain ⟨f, F, _, hrout⟩ := routed_ev (raws := l3) R (fun a ha => by have := hcap a ha; omega) w3
  obtain ⟨b0, b1⟩ := wf_bounds w4
  have p := pk_range (c := a4) (n := 1000) (by omega)
  obtain ⟨x, hx⟩ : ∃ x, 1 + pk a4 1000 = x := ⟨_, rfl⟩
  have hflen := F.within.len
  have hM : Right n s t (l.map (scaleArc x)) := by
    refine ⟨R.n2, R.n500, R.s1, R.sn, R.t1, R.tn, R.ne, by rw [List.length_map]; exact R.len, fun a ha => ?_, ?_⟩
    · obtain ⟨b, hb, rfl⟩ := List.mem_map.1 ha
      obtain ⟨g0, g1, g2, g3, g4⟩ := R.arcs b hb
      exact ⟨g0, g1, g2, g3, Int.mul_nonneg (by omega) g4⟩
    · rw [scale_sum]
      have h1 := sumCap_le hcap
      have h2 := sumCap_nonneg R.arcs
      have : x * sumCap l ≤ 1000 * (1000000 * 24) := Int.mul_le_mul (by omega) (by omega) h2 (by omega)
      omega
  have hG : IsFlow n s t (l.map (scaleArc x)) (f.map (x * ·)) :=
    ⟨scale_within (by omega) F.within, fun v h1 h2 h3 h4 => by rw [scale_exc, F.cons v h1 h2 h3 h4, Int.mul_zero]⟩
  have hZ : IsFlow n s t (l.map (scaleArc x)) (List.replicate (f.map (x * ·)).length 0) := by
    have := IsFlow.zeros (n := n) (s := s) (t := t) hM.arcs
    rw [List.length_map] at this ⊢
    rw [hflen]; exact this
  have hadd := add_ev hM hG hZ (fun i h h1 h2 => by
    have := hG.within.get i h h1
    rw [List.getElem_replicate]; omega)
  rw [add_zeros] at hadd
  have hv1 := value_flow R F
  have hv2 := value_flow hM hG
  have hsame := same_ev (f.map (x * ·)) (f.map (x * ·)) (by rw [List.length_map]; omega)
  rw [decide_eq_true rfl] at hsame
  have hb := exc_bound (l := l) F.within.nonneg t
  have hs1 := F.within.sum
  have hs2 := sumCap_le hcap
  have hxe : wrap64 (x * exc l f t) = x * exc l f t := by
    have e1 : x * exc l f t ≤ 1000 * (1000000 * 24) := by
      by_cases c : 0 ≤ exc l f t
      · exact Int.mul_le_mul (by omega) (by omega) c (by omega)
      · have : x * exc l f t ≤ 0 := Int.mul_nonpos_of_nonneg_of_nonpos (by omega) (by omega)
        omega
    have e2 : -(1000 * (1000000 * 24)) ≤ x * exc l f t := by
      by_cases c : 0 ≤ exc l f t
      · have : 0 ≤ x * exc l f t := Int.mul_nonneg (by omega) c
        omega
      · have h1 : x * (-(exc l f t)) ≤ 1000 * (1000000 * 24) := Int.mul_le_mul (by omega) (by omega) (by omega) (by omega)
        rw [Int.mul_neg] at h1; omega
    exact wrap_id (by omega) (by omega)
  refine Ev.rounds ?_
  unfold racewaylaw5_FlowScales.f
  refine Ev.bind shown_ev ?_
  simp only [if_true]
  refine Ev.bind hmade ?_
  refine Ev.bind hrout ?_
  refine Ev.congr (f := fun k => racewaylaw5_FlowScales.l0 k f x (List.replicate f.length 0) 0 n s t l n s t []) (fun k => ?_) ?_
  · rw [pick_eq b0 b1 (by omega)]
    simp only [Option.bind_some]
    rw [if_pos (by omega), if_pos (by omega), wrap_id (x := 1 + pk a4 1000) (by omega) (by omega), hx]
    rfl
  · have := scale_loop (n := n) (s := s) (t := t) (x := x) (l := l) (f := f) (r := true) (by omega) (by omega) F.within hcap hl f.length ?_ 0 (List.replicate f.length 0) (by omega) List.length_replicate (fun j _ _ hj => by omega)
    · simpa using this
    · have c1 : (0 : Int) ≤ ((f.map (x * ·)).length : Int) := by omega
      have c2 : (f.map (x * ·)).length ≤ 35184372088832 := by rw [List.length_map]; omega
      have c3 : ¬ (f.length : Int) < (f.length : Int) := by omega
      refine Ev.step (f := ?g) (fun k => ?h) ?e
      case h =>
        simp only [racewaylaw5_FlowScales.l0]
        rw [if_neg c3]
      case e =>
        refine Ev.bind hv1 (Ev.bind hv2 ?_)
        simp only [if_pos c1, Int.toNat_natCast, if_pos c2]
        refine Ev.bind hadd ?_
        simp only [if_true]
        rw [hxe, scale_exc]
        simp only [if_true]
        exact Ev.bind hsame (Ev.now true)
end Go.Proofs.Ytjbeofcgnnlllaa.Pure
