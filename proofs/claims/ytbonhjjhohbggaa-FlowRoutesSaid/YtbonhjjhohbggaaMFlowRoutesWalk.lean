/- Plain lists and numbers, for the law FlowRoutes: no program and no memory. -/
import Derived.Test.YtbonhjjhohbggaaPFlowRoutesx0
import Derived.Test.YtbonhjjhohbggaaPFlowRoutesx10
import Derived.Test.YtbonhjjhohbggaaMFlowRoutesBase
import Derived.Test.YtbonhjjhohbggaaMFlowRoutesPick
import Derived.Test.YtbonhjjhohbggaaMFlowRoutesMade
import Derived.Test.YtbonhjjhohbggaaMFlowRoutesFlowmath
import Derived.Test.YtbonhjjhohbggaaMFlowRoutesFlowfun
set_option linter.unusedVariables false
namespace Go.Proofs.Ytbonhjjhohbggaa.Pure
open Go.RowKit Go.Proofs.Ytbonhjjhohbggaa.PFlowRoutes Go.Proofs.YtbonhjjhohbggaaW.PrintWords Go.Proofs.YtbonhjjhohbggaaW.PrintLast
theorem rdOf_set {m : List Bool} {j u : Int} {b : Bool} (h0 : 0 ≤ j) (h1 : j < (m.length : Int)) (hu : 0 ≤ u) : rdOf false (m.set j.toNat b) u = if j = u then b else rdOf false m u := by
  unfold rdOf
  rw [List.getD_eq_getElem?_getD, List.getD_eq_getElem?_getD, List.getElem?_set]
  by_cases e : j = u
  · subst e
    rw [if_pos rfl, if_pos (by omega), if_pos rfl]; rfl
  · rw [if_neg (by omega), if_neg e]
/-- How many nodes were not met. -/
def cntF : List Bool → Nat
  | [] => 0
  | b :: m => (if b = true then 0 else 1) + cntF m
theorem cntF_set : ∀ {m : List Bool} {i : Nat}, i < m.length → m.getD i false = false → cntF (m.set i true) + 1 = cntF m
  | [], _, h, _ => absurd h (by simp)
  | b :: m, 0, _, h => by
    have hb : b = false := by simpa using h
    subst hb
    simp [cntF]; omega
  | b :: m, i + 1, h, hb => by
    have := cntF_set (m := m) (i := i) (by simpa using h) (by simpa using hb)
    simp only [List.set_cons_succ, cntF]; omega
theorem cntF_replicate (k : Nat) : cntF (List.replicate k false) = k := by
  induction k with
  | zero => rfl
  | succ k ih => simp only [List.replicate_succ, cntF, ih]; simp; omega
/-- A walk along arcs, by their numbers. -/
def Path (l : List S38) : Int → List Int → Int → Prop
  | u, [], v => u = v
  | u, i :: w, v => (rd_T38 l i).f0 = u ∧ Path l (rd_T38 l i).f1 w v
theorem Path.snoc {l : List S38} : ∀ {w : List Int} {u v i : Int}, Path l u w v → (rd_T38 l i).f0 = v → Path l u (w ++ [i]) (rd_T38 l i).f1
  | [], u, v, i, h, hi => ⟨by rw [hi]; exact h.symm, rfl⟩
  | _ :: w, u, v, i, h, hi => ⟨h.1, Path.snoc h.2 hi⟩
/-- What walked tells: nothing, or a walk from source to sink, along which there is room. -/
def GoodWalk (l : List S38) (f : List Int) (s t : Int) (w : List Int) : Prop :=
  w = [] ∨ (Path l s w t ∧ w.Nodup ∧ ∀ j ∈ w, 0 ≤ j ∧ j < (l.length : Int) ∧ rd f j < (rd_T38 l j).f2)
def FitOk (l : List S38) (f : List Int) (met : List Bool) (at_ : Int) (F : List Int) : Prop :=
  ∀ j ∈ F, 0 ≤ j ∧ j < (l.length : Int) ∧ (rd_T38 l j).f0 = at_ ∧ rdOf false met (rd_T38 l j).f1 = false ∧ rd f j < (rd_T38 l j).f2
theorem wrap_succ {i : Nat} (h : i ≤ 1000000) : wrap64 ((i : Int) + 1) = ((i + 1 : Nat) : Int) := by rw [wrap_id (by omega) (by omega)]; rfl
theorem fit_run {n s t at_ raw : Int} {l : List S38} {f w : List Int} {met : List Bool} (hg : ∀ a ∈ l, GoodArc n a) (hlen : f.length = l.length) (hl : l.length ≤ 2000) (hm : (met.length : Int) = n + 1) (Q : List Int → Prop)
    (H : ∀ F, FitOk l f met at_ F → F.length ≤ l.length → ∃ r, Ev (fun k => racewaylaw5_walked.l1 k f raw met at_ w F (l.length : Int) n s t l) r ∧ Q r) (d : Nat) :
    ∀ (i : Nat) (F : List Int), i + d = l.length → FitOk l f met at_ F → F.length ≤ i → ∃ r, Ev (fun k => racewaylaw5_walked.l1 k f raw met at_ w F (i : Int) n s t l) r ∧ Q r := by
  induction d with
  | zero =>
    intro i F hi hF hlF
    obtain rfl : i = l.length := by omega
    exact H F hF hlF
  | succ d ih =>
    intro i F hi hF hlF
    have hil : i < l.length := by omega
    have hif : i < f.length := by omega
    obtain ⟨g0, g1, g2, g3, g4⟩ := hg l[i] (List.getElem_mem hil)
    by_cases c0 : (l[i]).f0 = at_
    · by_cases c1 : rdOf false met (l[i]).f1 = true
      · obtain ⟨r, hr, hq⟩ := ih (i + 1) F (by omega) hF (by omega)
        refine ⟨r, Ev.step (fun k => ?_) hr, hq⟩
        simp only [racewaylaw5_walked.l1]
        rw [if_pos (by omega), if_pos (by omega), rdT_get hil, if_pos c0, if_pos (by omega), if_pos (by omega), if_pos c1, wrap_succ (by omega)]
      · by_cases c2 : f[i] < (l[i]).f2
        · obtain ⟨r, hr, hq⟩ := ih (i + 1) (F ++ [(i : Int)]) (by omega) (fun j hj => by
            rcases List.mem_append.1 hj with hj | hj
            · exact hF j hj
            · obtain rfl := List.mem_singleton.1 hj
              rw [rdT_get hil, rd_get hif]
              exact ⟨by omega, by omega, c0, by simpa using c1, c2⟩) (by simp; omega)
          refine ⟨r, Ev.step (fun k => ?_) hr, hq⟩
          simp only [racewaylaw5_walked.l1]
          rw [if_pos (by omega), if_pos (by omega), rdT_get hil, rd_get hif, if_pos c0, if_pos (by omega), if_pos (by omega), if_neg c1, if_pos (by omega), if_pos c2, if_pos (by omega), wrap_succ (by omega)]
        · obtain ⟨r, hr, hq⟩ := ih (i + 1) F (by omega) hF (by omega)
          refine ⟨r, Ev.step (fun k => ?_) hr, hq⟩
          simp only [racewaylaw5_walked.l1]
          rw [if_pos (by omega), if_pos (by omega), rdT_get hil, rd_get hif, if_pos c0, if_pos (by omega), if_pos (by omega), if_neg c1, if_pos (by omega), if_neg c2, wrap_succ (by omega)]
    · obtain ⟨r, hr, hq⟩ := ih (i + 1) F (by omega) hF (by omega)
      refine ⟨r, Ev.step (fun k => ?_) hr, hq⟩
      simp only [racewaylaw5_walked.l1]
      rw [if_pos (by omega), if_pos (by omega), rdT_get hil, if_neg c0, wrap_succ (by omega)]
theorem rd_mem {F : List Int} {i : Int} (h0 : 0 ≤ i) (h1 : i < (F.length : Int)) : rd F i ∈ F := by
  have hlt : i.toNat < F.length := by omega
  have : rd F i = F[i.toNat] := by unfold rd; rw [List.getD_eq_getElem?_getD, List.getElem?_eq_getElem hlt]; rfl
  rw [this]; exact List.getElem_mem hlt
theorem rdT_mem {l : List S38} {i : Int} (h0 : 0 ≤ i) (h1 : i < (l.length : Int)) : rd_T38 l i ∈ l := by
  have hlt : i.toNat < l.length := by omega
  have : rd_T38 l i = l[i.toNat] := by unfold rd_T38; rw [List.getD_eq_getElem?_getD, List.getElem?_eq_getElem hlt]; rfl
  rw [this]; exact List.getElem_mem hlt
theorem walk_run {n s t raw : Int} {l : List S38} {f : List Int} (hraw : (Lit.int .i64 raw).wf = true) (hg : ∀ a ∈ l, GoodArc n a) (hlen : f.length = l.length) (hl : l.length ≤ 2000) (hn : n ≤ 500) (c : Nat) :
    ∀ (met : List Bool) (at_ : Int) (w : List Int), cntF met = c → (met.length : Int) = n + 1 → (w.length : Int) + c ≤ n + 1 → Path l s w at_ → w.Nodup →
      (∀ j ∈ w, 0 ≤ j ∧ j < (l.length : Int) ∧ rd f j < (rd_T38 l j).f2 ∧ rdOf false met (rd_T38 l j).f1 = true) →
      ∃ r, Ev (fun k => racewaylaw5_walked.l0 k f raw met at_ w n s t l) r ∧ GoodWalk l f s t r := by
  obtain ⟨r0, r1⟩ := wf_bounds hraw
  induction c with
  | zero =>
    intro met at_ w hc hm hw hp hnd hj
    by_cases ht : at_ = t
    · refine ⟨w, Ev.step (f := fun _ => some w) (fun k => ?_) (Ev.now _), Or.inr ⟨by rw [← ht]; exact hp, hnd, fun j h => ⟨(hj j h).1, (hj j h).2.1, (hj j h).2.2.1⟩⟩⟩
      simp only [racewaylaw5_walked.l0]
      rw [if_pos ht]
    · obtain ⟨r, hr, hq⟩ := fit_run (n := n) (s := s) (t := t) (at_ := at_) (raw := raw) (w := w) hg hlen hl hm (GoodWalk l f s t) (fun F hF hFl => by
        have hF0 : F = [] := by
          cases F with
          | nil => rfl
          | cons j F =>
            exfalso
            obtain ⟨h0, h1, h2, h3, h4⟩ := hF j List.mem_cons_self
            obtain ⟨g0, g1, g2, g3, _⟩ := hg _ (rdT_mem h0 h1)
            have := cntF_set (m := met) (i := ((rd_T38 l j).f1).toNat) (by omega) h3
            omega
        subst hF0
        refine ⟨[], Ev.step (f := fun _ => some []) (fun k => ?_) (Ev.now _), Or.inl rfl⟩
        simp only [racewaylaw5_walked.l1]
        rw [if_neg (by omega), if_pos (show (([] : List Int).length : Int) = 0 from rfl)]) l.length 0 [] (by omega) (fun j h => by cases h) (Nat.le_refl _)
      refine ⟨r, Ev.step (fun k => ?_) hr, hq⟩
      simp only [racewaylaw5_walked.l0]
      rw [if_neg ht]
      rfl
  | succ c ih =>
    intro met at_ w hc hm hw hp hnd hj
    by_cases ht : at_ = t
    · refine ⟨w, Ev.step (f := fun _ => some w) (fun k => ?_) (Ev.now _), Or.inr ⟨by rw [← ht]; exact hp, hnd, fun j h => ⟨(hj j h).1, (hj j h).2.1, (hj j h).2.2.1⟩⟩⟩
      simp only [racewaylaw5_walked.l0]
      rw [if_pos ht]
    · obtain ⟨r, hr, hq⟩ := fit_run (n := n) (s := s) (t := t) (at_ := at_) (raw := raw) (w := w) hg hlen hl hm (GoodWalk l f s t) (fun F hF hFl => by
        by_cases hF0 : F.length = 0
        · refine ⟨[], Ev.step (f := fun _ => some []) (fun k => ?_) (Ev.now _), Or.inl rfl⟩
          simp only [racewaylaw5_walked.l1]
          rw [if_neg (by omega), if_pos (by omega)]
        · obtain ⟨d0, d1⟩ := tdiv_bounds r0 r1 (d := (w.length : Int) + 1) (by omega)
          obtain ⟨p0, p1⟩ := pk_range (c := Int.tdiv raw ((w.length : Int) + 1)) (n := (F.length : Int)) (by omega)
          obtain ⟨j, hjd⟩ : ∃ j, rd F (pk (Int.tdiv raw ((w.length : Int) + 1)) (F.length : Int)) = j := ⟨_, rfl⟩
          obtain ⟨h0, h1, h2, h3, h4⟩ := hF j (by rw [← hjd]; exact rd_mem p0 p1)
          obtain ⟨g0, g1, g2, g3, _⟩ := hg _ (rdT_mem h0 h1)
          have hcs := cntF_set (m := met) (i := ((rd_T38 l j).f1).toNat) (by omega) h3
          obtain ⟨r, hr, hq⟩ := ih (met.set ((rd_T38 l j).f1).toNat true) (rd_T38 l j).f1 (w ++ [j]) (by omega) (by rw [List.length_set]; exact hm) (by simp; omega) (Path.snoc hp h2)
            (by
              rw [List.nodup_append]
              refine ⟨hnd, by simp, fun a ha b hb => ?_⟩
              obtain rfl := List.mem_singleton.1 hb
              rintro rfl
              have := (hj a ha).2.2.2
              rw [this] at h3; cases h3)
            (fun i hi => by
              rcases List.mem_append.1 hi with hi | hi
              · obtain ⟨q0, q1, q2, q3⟩ := hj i hi
                obtain ⟨_, _, k2, k3, _⟩ := hg _ (rdT_mem q0 q1)
                refine ⟨q0, q1, q2, ?_⟩
                rw [rdOf_set (by omega) (by omega) (by omega)]
                split
                · rfl
                · exact q3
              · obtain rfl := List.mem_singleton.1 hi
                refine ⟨h0, h1, h4, ?_⟩
                rw [rdOf_set (by omega) (by omega) (by omega), if_pos rfl])
          refine ⟨r, Ev.step (fun k => ?_) hr, hq⟩
          simp only [racewaylaw5_walked.l1]
          rw [if_neg (by omega), if_neg (by omega), wrap_id (x := (w.length : Int) + 1) (by omega) (by omega), if_neg (by omega), wrap_id d0 d1, pick_eq d0 d1 (by omega)]
          simp only [Option.bind_some]
          rw [if_pos p0, if_pos p1, if_pos (by omega), hjd, if_pos h0, if_pos h1, if_pos (by omega), if_pos (by omega)]) l.length 0 [] (by omega) (fun j h => by cases h) (Nat.le_refl _)
      refine ⟨r, Ev.step (fun k => ?_) hr, hq⟩
      simp only [racewaylaw5_walked.l0]
      rw [if_neg ht]
      rfl
theorem walked_ev {n s t raw : Int} {l : List S38} {f : List Int} (R : Right n s t l) (hlen : f.length = l.length) (hraw : (Lit.int .i64 raw).wf = true) :
    ∃ w, Ev (fun k => racewaylaw5_walked.f k n s t l f raw) w ∧ GoodWalk l f s t w := by
  have hn := R.n500
  have hn2 := R.n2
  have hs1 := R.s1
  have hsn := R.sn
  have hl1 : (List.replicate (n + 1).toNat false).length = (n + 1).toNat := List.length_replicate
  have hc0 : (List.replicate (n + 1).toNat false).getD s.toNat false = false := by
    rw [List.getD_eq_getElem?_getD, List.getElem?_replicate]; split <;> rfl
  have hcs := cntF_set (m := List.replicate (n + 1).toNat false) (i := s.toNat) (by omega) hc0
  rw [cntF_replicate] at hcs
  obtain ⟨r, hr, hq⟩ := walk_run (n := n) (s := s) (t := t) (raw := raw) hraw R.arcs hlen R.len hn (cntF ((List.replicate (n + 1).toNat false).set s.toNat true)) ((List.replicate (n + 1).toNat false).set s.toNat true) s [] rfl (by simp; omega) (by simp; omega) rfl List.nodup_nil (fun j h => by cases h)
  refine ⟨r, Ev.congr (fun k => ?_) hr, hq⟩
  unfold racewaylaw5_walked.f
  rw [wrap_id (x := n + 1) (by omega) (by omega), if_pos (by omega), if_pos (by omega)]
  simp only [Option.bind_some]
  rw [if_pos (by omega), if_pos (by omega)]
end Go.Proofs.Ytbonhjjhohbggaa.Pure
