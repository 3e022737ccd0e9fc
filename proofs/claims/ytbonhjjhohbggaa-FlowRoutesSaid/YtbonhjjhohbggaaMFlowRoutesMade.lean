/- Plain lists and numbers, for the law FlowRoutes: no program and no memory. -/
import Derived.Test.YtbonhjjhohbggaaPFlowRoutesx0
import Derived.Test.YtbonhjjhohbggaaPFlowRoutesx9
import Derived.Test.YtbonhjjhohbggaaMFlowRoutesBase
import Derived.Test.YtbonhjjhohbggaaMFlowRoutesPick
set_option linter.unusedVariables false
namespace Go.Proofs.Ytbonhjjhohbggaa.Pure
open Go.RowKit Go.Proofs.Ytbonhjjhohbggaa.PFlowRoutes Go.Proofs.YtbonhjjhohbggaaW.PrintWords Go.Proofs.YtbonhjjhohbggaaW.PrintLast
theorem tdiv_bounds {c d : Int} (h0 : -9223372036854775808 ≤ c) (h1 : c ≤ 9223372036854775807) (hd : 0 < d) : -9223372036854775808 ≤ Int.tdiv c d ∧ Int.tdiv c d ≤ 9223372036854775807 := by
  by_cases hc : 0 ≤ c
  · rw [Int.tdiv_eq_ediv_of_nonneg hc]
    have h2 := Int.ediv_nonneg hc (Int.le_of_lt hd)
    have h3 : c / d ≤ c := Int.ediv_le_self d hc
    omega
  · have e : Int.tdiv c d = -(Int.tdiv (-c) d) := by rw [← Int.neg_tdiv, Int.neg_neg]
    rw [e, Int.tdiv_eq_ediv_of_nonneg (by omega)]
    have h2 : 0 ≤ (-c) / d := Int.ediv_nonneg (by omega) (Int.le_of_lt hd)
    have h3 : (-c) / d ≤ -c := Int.ediv_le_self d (by omega)
    omega
/-- A raw arc is of whole numbers of 64 bits. -/
def Wfc (x : S42) : Prop := (Lit.int .i64 x.f0).wf = true ∧ (Lit.int .i64 x.f1).wf = true ∧ (Lit.int .i64 x.f2).wf = true
def mkArc (n : Int) (x : S42) : S38 := ⟨1 + pk x.f0 n, 1 + pk x.f1 n, if pk (Int.tdiv x.f2 21) 9 = 0 then pk x.f2 1000000 else pk x.f2 21⟩
theorem mkArc_good {n : Int} (hn : 0 < n) (x : S42) : GoodArc n (mkArc n x) ∧ (mkArc n x).f2 < 1000000 := by
  have h0 := pk_range (c := x.f0) hn
  have h1 := pk_range (c := x.f1) hn
  have h2 := pk_range (c := x.f2) (n := 1000000) (by omega)
  have h3 := pk_range (c := x.f2) (n := 21) (by omega)
  simp only [GoodArc, mkArc]
  split <;> exact ⟨⟨by omega, by omega, by omega, by omega, by omega⟩, by omega⟩
theorem made_loop {l : List S42} (hw : ∀ x ∈ l, Wfc x) {n s t : Int} (h2 : 2 ≤ n) (h9 : n ≤ 9) (d : Nat) : ∀ (i : Nat), i + d = min l.length 24 →
    Ev (fun k => racewaylaw5_made.l0 k l (i : Int) n s t ((l.take i).map (mkArc n))) (n, s, t, (l.take 24).map (mkArc n)) := by
  induction d with
  | zero =>
    intro i hi
    have e : (l.take i).map (mkArc n) = (l.take 24).map (mkArc n) := by
      have e0 : l.take i = l.take 24 := List.take_eq_take_iff.2 (by omega)
      rw [e0]
    by_cases hl : (i : Int) < (l.length : Int)
    · refine Ev.step (fun k => ?_) (Ev.step (f := fun _ => some (n, s, t, (l.take i).map (mkArc n))) (g := fun k => racewaylaw5_made.j1 k l (i : Int) false n s t ((l.take i).map (mkArc n))) (fun k => ?_) (by rw [e]; exact Ev.now _))
      · simp only [racewaylaw5_made.l0]
        rw [if_pos hl, decide_eq_false (by omega)]
      · simp [racewaylaw5_made.j1]
    · refine Ev.step (fun k => ?_) (Ev.step (f := fun _ => some (n, s, t, (l.take i).map (mkArc n))) (g := fun k => racewaylaw5_made.j1 k l (i : Int) false n s t ((l.take i).map (mkArc n))) (fun k => ?_) (by rw [e]; exact Ev.now _))
      · simp only [racewaylaw5_made.l0]
        rw [if_neg hl]
      · simp [racewaylaw5_made.j1]
  | succ d ih =>
    intro i hi
    have hil : i < l.length := by omega
    have hx : rd_T42 l (i : Int) = l[i] := by simp [rd_T42, hil]
    obtain ⟨w0, w1, w2⟩ := hw l[i] (List.getElem_mem hil)
    obtain ⟨l0, u0⟩ := wf_bounds w0
    obtain ⟨l1, u1⟩ := wf_bounds w1
    obtain ⟨l2, u2⟩ := wf_bounds w2
    obtain ⟨l3, u3⟩ := tdiv_bounds l2 u2 (d := 21) (by omega)
    have p0 := pk_range (c := l[i].f0) (n := n) (by omega)
    have p1 := pk_range (c := l[i].f1) (n := n) (by omega)
    have et : (l.take (i + 1)).map (mkArc n) = (l.take i).map (mkArc n) ++ [mkArc n l[i]] := by
      rw [List.take_succ_eq_append_getElem hil, List.map_append]; rfl
    refine Ev.step (f := fun k => racewaylaw5_made.j1 k l (i : Int) true n s t ((l.take i).map (mkArc n))) (fun k => ?_) (Ev.step (f := fun k => racewaylaw5_made.l0 k l ((i + 1 : Nat) : Int) n s t ((l.take (i + 1)).map (mkArc n))) (fun k => ?_) (ih (i + 1) (by omega)))
    · simp only [racewaylaw5_made.l0]
      rw [if_pos (by omega), decide_eq_true (by omega)]
    · simp only [racewaylaw5_made.j1, if_true]
      rw [if_pos (by omega), if_pos (by omega), hx, pick_eq l2 u2 (by omega)]
      simp only [Option.bind_some]
      rw [wrap_id l3 u3, pick_eq l3 u3 (by omega)]
      simp only [Option.bind_some]
      rw [pick_eq l2 u2 (by omega), pick_eq l0 u0 (by omega), pick_eq l1 u1 (by omega)]
      simp only [Option.bind_some]
      rw [wrap_id (by omega) (by omega), wrap_id (by omega) (by omega), wrap_id (by omega) (by omega), et]
      have hlm : ((l.take i).map (mkArc n)).length < 5864062014805 := by rw [List.length_map, List.length_take]; omega
      by_cases hz : pk (Int.tdiv l[i].f2 21) 9 = 0
      · rw [if_pos hz, if_pos hlm]
        simp only [mkArc, if_pos hz]
        rfl
      · rw [if_neg hz, if_pos hlm]
        simp only [mkArc, if_neg hz]
        rfl
def madeT (a1 n s : Int) : Int := 1 + Int.tmod (s + pk (Int.tdiv a1 16) (n - 1)) n
/-- What is made of raw numbers. -/
theorem made_ev {a0 a1 : Int} {l : List S42} (w0 : (Lit.int .i64 a0).wf = true) (w1 : (Lit.int .i64 a1).wf = true) (hw : ∀ x ∈ l, Wfc x) :
    ∃ n s t arcs, Ev (fun k => racewaylaw5_made.f k a0 a1 l) (n, s, t, arcs) ∧ 2 ≤ n ∧ n ≤ 9 ∧ Right n s t arcs ∧ arcs.length ≤ 24 ∧ arcs.length = min l.length 24 ∧ (∀ a ∈ arcs, a.f2 < 1000000) := by
  obtain ⟨l0, u0⟩ := wf_bounds w0
  obtain ⟨l1, u1⟩ := wf_bounds w1
  obtain ⟨l2, u2⟩ := tdiv_bounds l1 u1 (d := 16) (by omega)
  have p0 := pk_range (c := a0) (n := 8) (by omega)
  obtain ⟨n, hn⟩ : ∃ n, 2 + pk a0 8 = n := ⟨_, rfl⟩
  have p1 := pk_range (c := a1) (n := n) (by omega)
  have p2 := pk_range (c := Int.tdiv a1 16) (n := n - 1) (by omega)
  obtain ⟨s, hs⟩ : ∃ s, 1 + pk a1 n = s := ⟨_, rfl⟩
  obtain ⟨q, hq⟩ : ∃ q, pk (Int.tdiv a1 16) (n - 1) = q := ⟨_, rfl⟩
  obtain ⟨t, ht⟩ : ∃ t, 1 + Int.tmod (s + q) n = t := ⟨_, rfl⟩
  have b0 : 0 ≤ Int.tmod (s + q) n := Int.tmod_nonneg _ (by omega)
  have b1 : Int.tmod (s + q) n < n := Int.tmod_lt_of_pos _ (by omega)
  have hne : s ≠ t := by
    have e : Int.tmod (s + q) n = (s + q) % n := Int.tmod_eq_emod_of_nonneg (by omega)
    rw [hq] at p2
    by_cases hc : s + q < n
    · rw [Int.emod_eq_of_lt (by omega) hc] at e; omega
    · have e2 : (s + q) % n = (s + q - n) % n := by rw [Int.sub_emod_right]
      rw [e2, Int.emod_eq_of_lt (by omega) (by omega)] at e; omega
  have hlen : ((l.take 24).map (mkArc n)).length = min l.length 24 := by simp; omega
  have hgood : ∀ a ∈ (l.take 24).map (mkArc n), GoodArc n a ∧ a.f2 < 1000000 := by
    intro a ha
    obtain ⟨x, _, rfl⟩ := List.mem_map.1 ha
    exact mkArc_good (by omega) x
  have hsum : ∀ m : List S38, (∀ a ∈ m, GoodArc n a ∧ a.f2 < 1000000) → sumCap m ≤ 1000000 * m.length := by
    intro m
    induction m with
    | nil => intro _; simp [sumCap]
    | cons a r ih =>
      intro h
      have h1 := ih (fun x hx => h x (List.mem_cons_of_mem _ hx))
      have h2 := (h a List.mem_cons_self).2
      simp only [sumCap, List.length_cons]; omega
  have hs2 := hsum _ hgood
  refine ⟨n, s, t, (l.take 24).map (mkArc n), ?_, by omega, by omega, ⟨by omega, by omega, by omega, by omega, by omega, by omega, hne, by omega, fun a ha => (hgood a ha).1, by omega⟩, by omega, hlen, fun a ha => (hgood a ha).2⟩
  refine Ev.congr (f := fun k => racewaylaw5_made.l0 k l 0 n s t []) (fun k => ?_) ?_
  · unfold racewaylaw5_made.f
    rw [pick_eq l0 u0 (by omega)]
    simp only [Option.bind_some]
    rw [wrap_id (x := 2 + pk a0 8) (by omega) (by omega), hn, pick_eq l1 u1 (by omega)]
    simp only [Option.bind_some]
    rw [wrap_id (x := n - 1) (by omega) (by omega), wrap_id l2 u2, pick_eq l2 u2 (by omega)]
    simp only [Option.bind_some]
    rw [if_neg (by omega), wrap_id (x := 1 + pk a1 n) (by omega) (by omega), hs, hq, wrap_id (x := s + q) (by omega) (by omega), wrap_id (x := 1 + Int.tmod (s + q) n) (by omega) (by omega), ht]
  · have := made_loop hw (n := n) (s := s) (t := t) (by omega) (by omega) (min l.length 24) 0 (by omega)
    simpa using this
end Go.Proofs.Ytbonhjjhohbggaa.Pure
