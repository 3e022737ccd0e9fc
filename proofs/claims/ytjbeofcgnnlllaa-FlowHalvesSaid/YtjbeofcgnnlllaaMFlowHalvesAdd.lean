/- Plain lists and numbers, for the law FlowHalves: no program and no memory. -/
import Derived.Test.YtjbeofcgnnlllaaPFlowHalvesx0
import Derived.Test.YtjbeofcgnnlllaaPFlowHalvesx12
import Derived.Test.YtjbeofcgnnlllaaMFlowHalvesBase
import Derived.Test.YtjbeofcgnnlllaaMFlowHalvesFlowmath
import Derived.Test.YtjbeofcgnnlllaaMFlowHalvesFlowfun
set_option linter.unusedVariables false
namespace Go.Proofs.Ytjbeofcgnnlllaa.Pure
open Go.RowKit Go.Proofs.Ytjbeofcgnnlllaa.PFlowHalves Go.Proofs.YtjbeofcgnnlllaaW.PrintWords Go.Proofs.YtjbeofcgnnlllaaW.PrintLast
def zipAdd (f g : List Int) : List Int := List.zipWith (· + ·) f g
theorem zipAdd_length {f g : List Int} (h : f.length = g.length) : (zipAdd f g).length = f.length := by unfold zipAdd; rw [List.length_zipWith]; omega
theorem zipAdd_get {f g : List Int} {i : Nat} (h1 : i < f.length) (h2 : i < g.length) (h3 : i < (zipAdd f g).length) : (zipAdd f g)[i] = f[i] + g[i] := List.getElem_zipWith
theorem add_loop {n s t : Int} {l : List S28} {f g : List Int} (hl : l.length ≤ 2000) (Wf : Within l f) (Wg : Within l g) (hcap : ∀ a ∈ l, a.f2 ≤ 4611686018427387903) (hfit : ∀ i (h : i < l.length) (h1 : i < f.length) (h2 : i < g.length), f[i] + g[i] ≤ (l[i]).f2) (d : Nat) :
    ∀ (i : Nat) (out : List Int), i + d = f.length → out.length = f.length → (∀ j (h : j < out.length) (h1 : j < f.length) (h2 : j < g.length), j < i → out[j] = f[j] + g[j]) →
      Ev (fun k => flow_Add.l0 k f g out (f.length : Int) (i : Int) n s t l) (zipAdd f g, 0) := by
  have hf := Wf.len
  have hg := Wg.len
  induction d with
  | zero =>
    intro i out hi ho hv
    have e : out = zipAdd f g := by
      refine List.ext_getElem (by rw [zipAdd_length (by omega)]; exact ho) (fun j h1 h2 => ?_)
      rw [zipAdd_get (by omega) (by omega)]
      exact hv j h1 (by omega) (by omega) (by omega)
    subst e
    refine Ev.step (f := fun _ => some (zipAdd f g, 0)) (fun k => ?_) (Ev.now _)
    simp only [flow_Add.l0]
    rw [if_neg (by omega)]
  | succ d ih =>
    intro i out hi ho hv
    have h1 : i < f.length := by omega
    have h2 : i < g.length := by omega
    have h3 : i < l.length := by omega
    have b1 := Wf.get i h3 h1
    have b2 := Wg.get i h3 h2
    have b3 := hfit i h3 h1 h2
    have b4 := hcap _ (List.getElem_mem h3)
    refine Ev.step (fun k => ?_) (ih (i + 1) (out.set i (f[i] + g[i])) (by omega) (by rw [List.length_set]; exact ho) (fun j q q1 q2 hj => by
      rw [List.getElem_set]
      by_cases e : i = j
      · subst e; rw [if_pos rfl]
      · rw [if_neg e]; exact hv j (by rw [List.length_set] at q; exact q) q1 q2 (by omega)))
    simp only [flow_Add.l0]
    rw [if_pos (by omega), if_pos (by omega), if_pos (by omega), if_pos (by omega), if_pos (by omega), rd_get h1, rd_get h2, wrap_id (by omega) (by omega)]
    simp only [Option.bind_some, Int.toNat_natCast]
    have e : rd (out.set i (f[i] + g[i])) (i : Int) = f[i] + g[i] := by
      rw [rd_get (by rw [List.length_set]; omega), List.getElem_set_self]
    rw [if_pos (by omega), e, rdT_get h3, if_neg (by omega), wrap_id (by omega) (by omega)]
    rfl
theorem add_ev {n s t : Int} {l : List S28} {f g : List Int} (R : Right n s t l) (F : IsFlow n s t l f) (G : IsFlow n s t l g) (hfit : ∀ i (h : i < l.length) (h1 : i < f.length) (h2 : i < g.length), f[i] + g[i] ≤ (l[i]).f2) :
    Ev (fun k => flow_Add.f k n s t l f g) (zipAdd f g, 0) := by
  have hl := R.len
  have hf := F.within.len
  have hcap : ∀ a ∈ l, a.f2 ≤ 4611686018427387903 := by
    have hs := R.sum
    have : ∀ (m : List S28), (∀ a ∈ m, GoodArc n a) → ∀ a ∈ m, a.f2 ≤ sumCap m := by
      intro m
      induction m with
      | nil => intro _ a ha; cases ha
      | cons b m ih =>
        intro hm a ha
        have h1 := sumCap_nonneg (fun x hx => hm x (List.mem_cons_of_mem _ hx))
        have h2 := (hm b List.mem_cons_self).2.2.2.2
        rcases List.mem_cons.1 ha with rfl | ha
        · simp only [sumCap]; omega
        · have := ih (fun x hx => hm x (List.mem_cons_of_mem _ hx)) a ha
          simp only [sumCap]; omega
    intro a ha
    have := this l R.arcs a ha
    omega
  unfold flow_Add.f
  refine Ev.bind (check_flow R F) ?_
  simp only [if_true]
  refine Ev.bind (check_flow R G) ?_
  simp only [if_true]
  refine Ev.congr (fun k => ?_) (add_loop (n := n) (s := s) (t := t) hl F.within G.within hcap hfit f.length 0 (List.replicate f.length 0) (by omega) List.length_replicate (fun j _ _ _ hj => by omega))
  rw [if_pos (by omega), if_pos (by omega)]
  rfl
theorem add_bad_loop {n s t : Int} {l : List S28} {f g : List Int} (hl : l.length ≤ 2000) (Wf : Within l f) (Wg : Within l g) (hcap : ∀ a ∈ l, a.f2 ≤ 4611686018427387903) (d : Nat) :
    ∀ (i : Nat) (out : List Int), i + d = f.length → out.length = f.length → (∃ j, i ≤ j ∧ ∃ (h : j < l.length) (h1 : j < f.length) (h2 : j < g.length), (l[j]).f2 < f[j] + g[j]) →
      Ev (fun k => flow_Add.l0 k f g out (f.length : Int) (i : Int) n s t l) ([], 3) := by
  have hf := Wf.len
  have hg := Wg.len
  induction d with
  | zero => intro i out hi ho ⟨j, h0, h1, h2, h3, _⟩; omega
  | succ d ih =>
    intro i out hi ho ⟨j, q0, q1, q2, q3, q4⟩
    have h1 : i < f.length := by omega
    have h2 : i < g.length := by omega
    have h3 : i < l.length := by omega
    have b1 := Wf.get i h3 h1
    have b2 := Wg.get i h3 h2
    have b4 := hcap _ (List.getElem_mem h3)
    have e : rd (out.set i (f[i] + g[i])) (i : Int) = f[i] + g[i] := by
      rw [rd_get (by rw [List.length_set]; omega), List.getElem_set_self]
    by_cases c : (l[i]).f2 < f[i] + g[i]
    · refine Ev.step (f := fun _ => some ([], 3)) (fun k => ?_) (Ev.now _)
      simp only [flow_Add.l0]
      rw [if_pos (by omega), if_pos (by omega), if_pos (by omega), if_pos (by omega), if_pos (by omega), rd_get h1, rd_get h2, wrap_id (by omega) (by omega)]
      simp only [Option.bind_some, Int.toNat_natCast]
      rw [if_pos (by omega), e, rdT_get h3, if_pos (by omega)]
    · refine Ev.step (fun k => ?_) (ih (i + 1) (out.set i (f[i] + g[i])) (by omega) (by rw [List.length_set]; exact ho) ⟨j, by
        by_cases e2 : i = j
        · subst e2; exact absurd q4 c
        · omega, q1, q2, q3, q4⟩)
      simp only [flow_Add.l0]
      rw [if_pos (by omega), if_pos (by omega), if_pos (by omega), if_pos (by omega), if_pos (by omega), rd_get h1, rd_get h2, wrap_id (by omega) (by omega)]
      simp only [Option.bind_some, Int.toNat_natCast]
      rw [if_pos (by omega), e, rdT_get h3, if_neg (by omega), wrap_id (by omega) (by omega)]
      rfl
end Go.Proofs.Ytjbeofcgnnlllaa.Pure
