/- Plain lists and numbers, for the law FlowHalves: no program and no memory. -/
import Derived.Test.YtjbeofcgnnlllaaPFlowHalvesx0
import Derived.Test.YtjbeofcgnnlllaaPFlowHalvesx11
import Derived.Test.YtjbeofcgnnlllaaPFlowHalvesx14
import Derived.Test.YtjbeofcgnnlllaaMFlowHalvesBase
import Derived.Test.YtjbeofcgnnlllaaMFlowHalvesPick
import Derived.Test.YtjbeofcgnnlllaaMFlowHalvesMade
import Derived.Test.YtjbeofcgnnlllaaMFlowHalvesFlowmath
import Derived.Test.YtjbeofcgnnlllaaMFlowHalvesFlowfun
import Derived.Test.YtjbeofcgnnlllaaMFlowHalvesValue
import Derived.Test.YtjbeofcgnnlllaaMFlowHalvesWalk
import Derived.Test.YtjbeofcgnnlllaaMFlowHalvesRouted
import Derived.Test.YtjbeofcgnnlllaaMFlowHalvesSame
import Derived.Test.YtjbeofcgnnlllaaMFlowHalvesAdd
import Derived.Test.YtjbeofcgnnlllaaMFlowHalvesShown5
import Derived.Test.YtjbeofcgnnlllaaMFlowHalvesCapsum
set_option linter.unusedVariables false
namespace Go.Proofs.Ytjbeofcgnnlllaa.Pure
open Go.RowKit Go.Proofs.Ytjbeofcgnnlllaa.PFlowHalves Go.Proofs.YtjbeofcgnnlllaaW.PrintWords Go.Proofs.YtjbeofcgnnlllaaW.PrintLast
theorem steps2 {n s t : Int} {l : List S28} (R : Right n s t l) (hcap : ∀ a ∈ l, a.f2 < 1000000000000) {raws : List Int} (hraws : ∀ x ∈ raws, (Lit.int .i64 x).wf = true) {m : Nat} (hm : m ≤ raws.length) (hm8 : m ≤ 8) (d : Nat) :
    ∀ (i : Nat) (h : List Int), i + d = m → IsFlow n s t l h → ∃ g f, IsFlow n s t l g ∧ IsFlow n s t l f ∧ (∀ j, 0 ≤ j → rd g j ≤ rd f j) ∧
      Ev (fun k => racewaylaw5_routed.l0 k (raws.take m) h (i : Int) n s t l) g ∧ Ev (fun k => racewaylaw5_routed.l0 k raws h (i : Int) n s t l) f := by
  have ht : ∀ x ∈ raws.take m, (Lit.int .i64 x).wf = true := fun x hx => hraws x (List.mem_of_mem_take hx)
  have hlt : (raws.take m).length = m := by rw [List.length_take]; omega
  induction d with
  | zero =>
    intro i h hi H
    obtain ⟨f, F, hle, _, hf⟩ := steps_ev R hcap hraws (min raws.length 8 - i) i h (by omega) H
    refine ⟨h, f, H, F, hle, ?_, hf⟩
    refine Ev.step (f := fun k => racewaylaw5_routed.j1 k (raws.take m) h (i : Int) false n s t l) (fun k => ?_) (Ev.step (f := fun _ => some h) (fun k => ?_) (Ev.now _))
    · simp only [racewaylaw5_routed.l0]
      rw [if_neg (by omega)]
    · simp [racewaylaw5_routed.j1]
  | succ d ih =>
    intro i h hi H
    have hir : i < raws.length := by omega
    obtain ⟨g1, hs, hg⟩ := step_ev (raw := rd raws (i : Int)) R hcap H.within (hraws _ (rd_mem (by omega) (by omega)))
    obtain ⟨g, f, G, F, hle, eg, ef⟩ := ih (i + 1) g1 (by omega) (hs.flow H)
    refine ⟨g, f, G, F, hle, hg (raws.take m) i (by omega) (by omega) ?_ g eg, hg raws i (by omega) hir rfl f ef⟩
    rw [rd_get (by omega), rd_get hir, List.getElem_take]
theorem exc_sub {l : List S28} {v : Int} : ∀ {f g : List Int}, f.length = g.length → exc l (List.zipWith (· - ·) f g) v = exc l f v - exc l g v := by
  induction l with
  | nil => intro f g _; rw [exc_nil, exc_nil, exc_nil]; omega
  | cons a l ih =>
    intro f g h
    cases f with
    | nil => cases g with
      | nil => simp [exc]
      | cons y g => simp at h
    | cons x f => cases g with
      | nil => simp at h
      | cons y g =>
        simp only [List.zipWith_cons_cons, exc]
        rw [ih (by simpa using h)]
        split <;> split <;> omega
theorem halves_loop {n s t : Int} {l : List S28} {f g : List Int} (hcap : ∀ a ∈ l, a.f2 < 1000000) (hl : l.length ≤ 24) (Wf : Within l f) (Wg : Within l g) (hle : ∀ j, 0 ≤ j → rd g j ≤ rd f j) {r : Bool}
    (H : Ev (fun k => racewaylaw5_FlowHalves.l0 k f g (List.zipWith (· - ·) f g) (f.length : Int) n s t l) r) (d : Nat) :
    ∀ (i : Nat) (h : List Int), i + d = f.length → h.length = f.length → (∀ j (q : j < h.length) (q1 : j < f.length) (q2 : j < g.length), j < i → h[j] = f[j] - g[j]) →
      Ev (fun k => racewaylaw5_FlowHalves.l0 k f g h (i : Int) n s t l) r := by
  have hf := Wf.len
  have hg := Wg.len
  induction d with
  | zero =>
    intro i h hi hh hv
    have e : h = List.zipWith (· - ·) f g := by
      refine List.ext_getElem (by rw [List.length_zipWith]; omega) (fun j h1 h2 => ?_)
      rw [List.getElem_zipWith]
      exact hv j h1 (by omega) (by omega) (by omega)
    rw [e, show i = f.length by omega]
    exact H
  | succ d ih =>
    intro i h hi hh hv
    have h1 : i < f.length := by omega
    have h2 : i < g.length := by omega
    have h3 : i < l.length := by omega
    have b1 := Wf.get i h3 h1
    have b2 := Wg.get i h3 h2
    have b3 := hcap _ (List.getElem_mem h3)
    have b4 := hle (i : Int) (by omega)
    rw [rd_get h1, rd_get h2] at b4
    refine Ev.step (fun k => ?_) (ih (i + 1) (h.set i (f[i] - g[i])) (by omega) (by rw [List.length_set]; exact hh) (fun j q q1 q2 hj => by
      rw [List.getElem_set]
      by_cases e : i = j
      · subst e; rw [if_pos rfl]
      · rw [if_neg e]; exact hv j (by rw [List.length_set] at q; exact q) q1 q2 (by omega)))
    simp only [racewaylaw5_FlowHalves.l0]
    rw [if_pos (by omega), if_pos (by omega), if_pos (by omega), if_pos (by omega), rd_get h1, rd_get h2, wrap_id (x := f[i] - g[i]) (by omega) (by omega), if_neg (by omega), wrap_id (x := (i : Int) + 1) (by omega) (by omega)]
    rfl
theorem FlowHalves : racewaylaw5_FlowHalves.Pure := by
  intro a0 a1 l2 l3 a4 w0 w1 m2 w2 m3 y3 w3 w4
  obtain ⟨n, s, t, l, hmade, n2, n9, R, hl, _, hcap⟩ := made_ev w0 w1 w2
  obtain ⟨b0, b1⟩ := wf_bounds w4
  have p := pk_range (c := a4) (n := 5) (by omega)
  obtain ⟨m, hm⟩ : ∃ m : Nat, (m : Int) = mn (l3.length : Int) (pk a4 5) := by
    refine ⟨(mn (l3.length : Int) (pk a4 5)).toNat, ?_⟩
    unfold mn; split <;> omega
  have hmb : m ≤ l3.length ∧ m ≤ 4 := by unfold mn at hm; split at hm <;> omega
  obtain ⟨g, f, G, F, hle, eg, ef⟩ := steps2 R (fun a ha => by have := hcap a ha; omega) w3 hmb.1 (by omega) m 0 (List.replicate l.length 0) (by omega) (IsFlow.zeros R.arcs)
  have hl2 := R.len
  have hroute : ∀ (raws r : List Int), Ev (fun k => racewaylaw5_routed.l0 k raws (List.replicate l.length 0) ((0 : Nat) : Int) n s t l) r → Ev (fun k => racewaylaw5_routed.f k n s t l raws) r := fun raws r h => by
    refine Ev.congr (fun k => ?_) h
    unfold racewaylaw5_routed.f
    rw [if_pos (by omega), if_pos (by omega)]
    rfl
  have hrf := hroute _ _ ef
  have hrg := hroute _ _ eg
  have hf := F.within.len
  have hg := G.within.len
  have hs1 := sumCap_le hcap
  have hH : IsFlow n s t l (List.zipWith (· - ·) f g) := by
    refine ⟨Within.of (by rw [List.length_zipWith]; omega) (fun i h h' => ?_), fun v h1 h2 h3 h4 => ?_⟩
    · rw [List.getElem_zipWith]
      have b1 := F.within.get i h (by omega)
      have b2 := G.within.get i h (by omega)
      have b4 := hle (i : Int) (by omega)
      rw [rd_get (by omega), rd_get (by omega)] at b4
      omega
    · rw [exc_sub (by omega), F.cons v h1 h2 h3 h4, G.cons v h1 h2 h3 h4]; rfl
  have hz : zipAdd g (List.zipWith (· - ·) f g) = f := by
    refine List.ext_getElem (by rw [zipAdd_length (by rw [List.length_zipWith]; omega)]; omega) (fun j h1 h2 => ?_)
    rw [zipAdd_get (by omega) (by rw [List.length_zipWith]; omega), List.getElem_zipWith]; omega
  have hadd := add_ev R G hH (fun i h h1 h2 => by
    rw [List.getElem_zipWith]
    have b1 := F.within.get i h (by omega)
    omega)
  rw [hz] at hadd
  have hsame := same_ev f f (by omega)
  rw [decide_eq_true rfl] at hsame
  have hb := exc_bound (l := l) F.within.nonneg t
  have hs2 := F.within.sum
  have hval : wrap64 (exc l g t + exc l (List.zipWith (· - ·) f g) t) = exc l f t := by
    rw [exc_sub (by omega)]
    have e : exc l g t + (exc l f t - exc l g t) = exc l f t := by omega
    rw [e]
    exact wrap_id (by omega) (by omega)
  refine Ev.rounds ?_
  unfold racewaylaw5_FlowHalves.f
  refine Ev.bind shown_ev ?_
  simp only [if_true]
  refine Ev.bind hmade (Ev.bind hrf ?_)
  have k1 : (0 : Int) ≤ (m : Int) := by omega
  have k2 : (m : Int) ≤ (l3.length : Int) := by omega
  simp only [pick_eq b0 b1 (show (0 : Int) < 5 by omega), Option.bind_some, ← hm, if_pos k1, if_pos k2, Int.toNat_natCast]
  refine Ev.bind hrg ?_
  have k3 : (0 : Int) ≤ (f.length : Int) := by omega
  have k4 : f.length ≤ 35184372088832 := by omega
  simp only [if_pos k3, if_pos k4]
  have k5 : ¬ (f.length : Int) < (f.length : Int) := by omega
  refine halves_loop hcap hl F.within G.within hle ?_ f.length 0 (List.replicate f.length 0) (by omega) List.length_replicate (fun j _ _ _ hj => by omega)
  refine Ev.step (f := ?g) (fun k => ?h) ?e
  case h =>
    simp only [racewaylaw5_FlowHalves.l0]
    rw [if_neg k5]
  case e =>
    refine Ev.bind hadd (Ev.bind (value_flow R G) (Ev.bind (value_flow R hH) (Ev.bind (value_flow R F) ?_)))
    simp only [if_true]
    refine Ev.bind hsame ?_
    simp only [if_true, hval]
    simpa using Ev.now true
end Go.Proofs.Ytjbeofcgnnlllaa.Pure
