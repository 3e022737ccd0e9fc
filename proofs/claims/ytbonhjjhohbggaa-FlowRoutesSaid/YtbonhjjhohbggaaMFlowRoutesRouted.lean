/- Plain lists and numbers, for the law FlowRoutes: no program and no memory. -/
import Derived.Test.YtbonhjjhohbggaaPFlowRoutesx0
import Derived.Test.YtbonhjjhohbggaaPFlowRoutesx8
import Derived.Test.YtbonhjjhohbggaaPFlowRoutesx10
import Derived.Test.YtbonhjjhohbggaaPFlowRoutesx11
import Derived.Test.YtbonhjjhohbggaaMFlowRoutesBase
import Derived.Test.YtbonhjjhohbggaaMFlowRoutesPick
import Derived.Test.YtbonhjjhohbggaaMFlowRoutesMade
import Derived.Test.YtbonhjjhohbggaaMFlowRoutesFlowmath
import Derived.Test.YtbonhjjhohbggaaMFlowRoutesFlowfun
import Derived.Test.YtbonhjjhohbggaaMFlowRoutesWalk
set_option linter.unusedVariables false
namespace Go.Proofs.Ytbonhjjhohbggaa.Pure
open Go.RowKit Go.Proofs.Ytbonhjjhohbggaa.PFlowRoutes Go.Proofs.YtbonhjjhohbggaaW.PrintWords Go.Proofs.YtbonhjjhohbggaaW.PrintLast
/-- An amount led along a walk. -/
def push (f : List Int) (m : Int) : List Int → List Int
  | [] => f
  | j :: w => push (f.set j.toNat (rd f j + m)) m w
theorem push_length (m : Int) : ∀ (w : List Int) (f : List Int), (push f m w).length = f.length
  | [], _ => rfl
  | j :: w, f => by rw [push, push_length m w, List.length_set]
theorem push_rd {m : Int} : ∀ {w : List Int} {f : List Int}, (∀ j ∈ w, 0 ≤ j ∧ j < (f.length : Int)) → w.Nodup → ∀ i, 0 ≤ i → rd (push f m w) i = rd f i + if i ∈ w then m else 0
  | [], f, _, _, i, _ => by simp [push]
  | j :: w, f, h, hn, i, hi => by
    obtain ⟨h0, h1⟩ := h j List.mem_cons_self
    have hj := (List.nodup_cons.1 hn).1
    rw [push, push_rd (fun k hk => by rw [List.length_set]; exact h k (List.mem_cons_of_mem _ hk)) (List.nodup_cons.1 hn).2 i hi, rd_set h0 h1 hi]
    by_cases e : j = i
    · subst e
      rw [if_pos rfl, if_neg hj, if_pos List.mem_cons_self]; omega
    · rw [if_neg e]
      by_cases c : i ∈ w
      · rw [if_pos c, if_pos (List.mem_cons_of_mem _ c)]
      · rw [if_neg c, if_neg (fun hc => by rcases List.mem_cons.1 hc with hc | hc; exact e hc.symm; exact c hc)]
theorem rd_nat {f : List Int} {j : Int} (h0 : 0 ≤ j) (h1 : j < (f.length : Int)) (h : j.toNat < f.length) : f[j.toNat] = rd f j := by
  unfold rd; rw [List.getD_eq_getElem?_getD, List.getElem?_eq_getElem h]; rfl
theorem rdT_nat {l : List S38} {j : Int} (h0 : 0 ≤ j) (h1 : j < (l.length : Int)) (h : j.toNat < l.length) : l[j.toNat] = rd_T38 l j := by
  unfold rd_T38; rw [List.getD_eq_getElem?_getD, List.getElem?_eq_getElem h]; rfl
theorem push_within {l : List S38} {m : Int} (hm : 0 ≤ m) : ∀ {w : List Int} {f : List Int}, Within l f → w.Nodup → (∀ j ∈ w, 0 ≤ j ∧ j < (l.length : Int) ∧ rd f j + m ≤ (rd_T38 l j).f2) → Within l (push f m w)
  | [], f, W, _, _ => W
  | j :: w, f, W, hn, h => by
    obtain ⟨h0, h1, h2⟩ := h j List.mem_cons_self
    have hlen := W.len
    have hj := (List.nodup_cons.1 hn).1
    have hjl : j.toNat < l.length := by omega
    have hjf : j.toNat < f.length := by omega
    have hb := W.get j.toNat hjl hjf
    rw [rd_nat h0 (by omega) hjf, rdT_nat h0 h1 hjl] at hb
    rw [push]
    refine push_within hm (W.set j.toNat _ (by omega) (fun h' => by rw [rdT_nat h0 h1 h']; exact h2)) (List.nodup_cons.1 hn).2 (fun i hi => ?_)
    obtain ⟨q0, q1, q2⟩ := h i (List.mem_cons_of_mem _ hi)
    refine ⟨q0, q1, ?_⟩
    rw [rd_set h0 (by omega) q0, if_neg (fun e => hj (by rw [e]; exact hi))]
    exact q2
theorem push_exc {l : List S38} {m v : Int} : ∀ {w : List Int} {f : List Int} {a b : Int}, Path l a w b → f.length = l.length → (∀ j ∈ w, 0 ≤ j ∧ j < (l.length : Int)) →
    exc l (push f m w) v = exc l f v + ((if b = v then m else 0) - (if a = v then m else 0))
  | [], f, a, b, hp, _, _ => by
    have : a = b := hp
    subst this
    simp only [push]; omega
  | j :: w, f, a, b, hp, hlen, h => by
    obtain ⟨h0, h1⟩ := h j List.mem_cons_self
    obtain ⟨e0, hp⟩ := hp
    have hjl : j.toNat < l.length := by omega
    have hjf : j.toNat < f.length := by omega
    rw [push, push_exc hp (by rw [List.length_set]; exact hlen) (fun i hi => h i (List.mem_cons_of_mem _ hi)), exc_set j.toNat _ v hjl hjf, rd_nat h0 (by omega) hjf, rdT_nat h0 h1 hjl, e0]
    have e : rd f j + m - rd f j = m := by omega
    rw [e]; omega
/-- One more walk is led. -/
def Step (l : List S38) (s t : Int) (f g : List Int) : Prop :=
  g = f ∨ ∃ w m, 1 ≤ m ∧ Path l s w t ∧ w.Nodup ∧ (∀ j ∈ w, 0 ≤ j ∧ j < (l.length : Int) ∧ rd f j + m ≤ (rd_T38 l j).f2) ∧ g = push f m w
theorem Step.flow {n s t : Int} {l : List S38} {f g : List Int} (h : Step l s t f g) (F : IsFlow n s t l f) : IsFlow n s t l g := by
  rcases h with rfl | ⟨w, m, hm, hp, hn, hj, rfl⟩
  · exact F
  · refine ⟨push_within (by omega) F.within hn hj, fun v h1 h2 h3 h4 => ?_⟩
    rw [push_exc hp F.within.len (fun j h => ⟨(hj j h).1, (hj j h).2.1⟩), F.cons v h1 h2 h3 h4, if_neg (fun e => h4 e.symm), if_neg (fun e => h3 e.symm)]; rfl
theorem Step.le {n s t : Int} {l : List S38} {f g : List Int} (h : Step l s t f g) (F : IsFlow n s t l f) : ∀ i, 0 ≤ i → rd f i ≤ rd g i := by
  intro i hi
  rcases h with rfl | ⟨w, m, hm, hp, hn, hj, rfl⟩
  · exact Int.le_refl _
  · have hlen := F.within.len
    rw [push_rd (fun j h => ⟨(hj j h).1, by have := (hj j h).2.1; omega⟩) hn i hi]
    split <;> omega
theorem Step.value {n s t : Int} {l : List S38} {f g : List Int} (h : Step l s t f g) (F : IsFlow n s t l f) (hst : s ≠ t) : exc l f t ≤ exc l g t := by
  rcases h with rfl | ⟨w, m, hm, hp, hn, hj, rfl⟩
  · exact Int.le_refl _
  · rw [push_exc hp F.within.len (fun j h => ⟨(hj j h).1, (hj j h).2.1⟩), if_pos rfl, if_neg hst]; omega
theorem most_run {n s t : Int} {l : List S38} {f w : List Int} (W : Within l f) (hcap : ∀ a ∈ l, a.f2 < 1000000000000) (hj : ∀ j ∈ w, 0 ≤ j ∧ j < (l.length : Int) ∧ rd f j < (rd_T38 l j).f2) (hwl : w.length ≤ 1000000) (d : Nat) :
    ∀ (j : Nat) (m : Int), j + d = w.length → 1 ≤ m → (∀ q, q < j → ∀ h : q < w.length, rd f w[q] + m ≤ (rd_T38 l w[q]).f2) →
      ∃ m', 1 ≤ m' ∧ m' ≤ m ∧ (∀ q ∈ w, rd f q + m' ≤ (rd_T38 l q).f2) ∧ ∀ (raws : List Int) (i : Int) r, Ev (fun k => racewaylaw5_routed.l2 k raws f i w m' 0 n s t l) r → Ev (fun k => racewaylaw5_routed.l1 k raws f i w m (j : Int) n s t l) r := by
  have hlen := W.len
  induction d with
  | zero =>
    intro j m hjd hm hq
    refine ⟨m, hm, Int.le_refl _, fun q hq' => ?_, fun raws i r hr => Ev.step (fun k => ?_) hr⟩
    · obtain ⟨p, hp, rfl⟩ := List.getElem_of_mem hq'
      exact hq p (by omega) hp
    · simp only [racewaylaw5_routed.l1]
      rw [if_neg (by omega)]
  | succ d ih =>
    intro j m hjd hm hq
    have hjw : j < w.length := by omega
    obtain ⟨h0, h1, h2⟩ := hj w[j] (List.getElem_mem hjw)
    have hc := hcap _ (rdT_mem h0 h1)
    have hb := W.get (w[j]).toNat (by omega) (by omega)
    rw [rd_nat h0 (by omega) (by omega), rdT_nat h0 h1 (by omega)] at hb
    obtain ⟨x, hx⟩ : ∃ x, (rd_T38 l w[j]).f2 - rd f w[j] = x := ⟨_, rfl⟩
    have hmn : 1 ≤ mn m x ∧ mn m x ≤ m ∧ mn m x ≤ x := by unfold mn; split <;> omega
    obtain ⟨m', g0, g1, g2, g3⟩ := ih (j + 1) (mn m x) (by omega) hmn.1 (fun q hqj hqw => by
      by_cases e : q = j
      · subst e; omega
      · have := hq q (by omega) hqw; omega)
    refine ⟨m', g0, by omega, g2, fun raws i r hr => Ev.step (fun k => ?_) (g3 raws i r hr)⟩
    simp only [racewaylaw5_routed.l1]
    rw [if_pos (by omega), if_pos (by omega), rd_get hjw, if_pos h0, if_pos h1, if_pos (by omega), wrap_id (by omega) (by omega), hx, wrap_succ (by omega)]
theorem push_run {n s t m : Int} {l : List S38} {raws w : List Int} {i : Nat} (hi : i ≤ 1000) (hm : 1 ≤ m) (hm2 : m ≤ 1000000000000) (hcap : ∀ a ∈ l, a.f2 < 1000000000000) (hwl : w.length ≤ 1000000) (d : Nat) :
    ∀ (j : Nat) (f : List Int), j + d = w.length → Within l f → (w.drop j).Nodup → (∀ q ∈ w.drop j, 0 ≤ q ∧ q < (l.length : Int) ∧ rd f q + m ≤ (rd_T38 l q).f2) →
      ∀ r, Ev (fun k => racewaylaw5_routed.l0 k raws (push f m (w.drop j)) ((i + 1 : Nat) : Int) n s t l) r → Ev (fun k => racewaylaw5_routed.l2 k raws f (i : Int) w m (j : Int) n s t l) r := by
  induction d with
  | zero =>
    intro j f hjd W _ _ r hr
    rw [List.drop_of_length_le (by omega), push] at hr
    refine Ev.step (fun k => ?_) hr
    simp only [racewaylaw5_routed.l2]
    rw [if_neg (by omega), wrap_succ (by omega)]
  | succ d ih =>
    intro j f hjd W hn hq r hr
    have hjw : j < w.length := by omega
    have hlen := W.len
    rw [List.drop_eq_getElem_cons hjw] at hn hq hr
    obtain ⟨h0, h1, h2⟩ := hq w[j] List.mem_cons_self
    have hc := hcap _ (rdT_mem h0 h1)
    have hb := W.get (w[j]).toNat (by omega) (by omega)
    rw [rd_nat h0 (by omega) (by omega), rdT_nat h0 h1 (by omega)] at hb
    have hnot := (List.nodup_cons.1 hn).1
    rw [push] at hr
    refine Ev.step (fun k => ?_) (ih (j + 1) (f.set (w[j]).toNat (rd f w[j] + m)) (by omega) (W.set _ _ (by omega) (fun h' => by rw [rdT_nat h0 h1 h']; exact h2)) (List.nodup_cons.1 hn).2 (fun q hq' => by
      obtain ⟨q0, q1, q2⟩ := hq q (List.mem_cons_of_mem _ hq')
      refine ⟨q0, q1, ?_⟩
      rw [rd_set h0 (by omega) q0, if_neg (fun e => hnot (by rw [e]; exact hq'))]
      exact q2) r hr)
    simp only [racewaylaw5_routed.l2]
    rw [if_pos (by omega), if_pos (by omega), rd_get hjw, if_pos h0, if_pos (by omega), wrap_id (by omega) (by omega), wrap_succ (by omega)]
theorem nodup_bound : ∀ {k : Nat} {w : List Int}, w.Nodup → (∀ j ∈ w, 0 ≤ j ∧ j < (k : Int)) → w.length ≤ k
  | 0, [], _, _ => Nat.le_refl _
  | 0, j :: _, _, h => by have := h j List.mem_cons_self; omega
  | k + 1, w, hn, h => by
    have h1 : (w.erase (k : Int)).length ≤ k := nodup_bound (hn.erase _) (fun j hj => by
      have hjw := List.mem_of_mem_erase hj
      have := h j hjw
      have hne : j ≠ (k : Int) := fun e => by
        rw [e] at hj
        exact (List.Nodup.not_mem_erase hn) hj
      omega)
    have h2 := List.length_erase_le (a := (k : Int)) (l := w)
    have h3 : w.length ≤ (w.erase (k : Int)).length + 1 := by
      rw [List.length_erase]; split <;> omega
    omega
/-- One round of routed. -/
theorem step_ev {n s t raw : Int} {l : List S38} {f : List Int} (R : Right n s t l) (hcap : ∀ a ∈ l, a.f2 < 1000000000000) (W : Within l f) (hraw : (Lit.int .i64 raw).wf = true) :
    ∃ g, Step l s t f g ∧ ∀ (raws : List Int) (i : Nat), i < 8 → i < raws.length → rd raws (i : Int) = raw →
      ∀ r, Ev (fun k => racewaylaw5_routed.l0 k raws g ((i + 1 : Nat) : Int) n s t l) r → Ev (fun k => racewaylaw5_routed.l0 k raws f (i : Int) n s t l) r := by
  obtain ⟨w, hw, hgood⟩ := walked_ev (f := f) (raw := raw) R W.len hraw
  obtain ⟨r0, r1⟩ := wf_bounds hraw
  have p := pk_range (c := raw) (n := 30) (by omega)
  have hl := R.len
  have hwp : (∀ j ∈ w, 0 ≤ j ∧ j < (l.length : Int) ∧ rd f j < (rd_T38 l j).f2) ∧ w.Nodup := by
    rcases hgood with rfl | ⟨_, h1, h2⟩
    · exact ⟨(fun j hj => by cases hj), List.nodup_nil⟩
    · exact ⟨h2, h1⟩
  have hwl := nodup_bound hwp.2 (fun j hj => ⟨(hwp.1 j hj).1, (hwp.1 j hj).2.1⟩)
  obtain ⟨m, m0, m1, m2, m3⟩ := most_run (n := n) (s := s) (t := t) W hcap hwp.1 (by omega) w.length 0 (pk raw 30 + 1) (by omega) (by omega) (fun q hq => by omega)
  refine ⟨push f m w, ?_, fun raws i hi hir hrr r hr => ?_⟩
  · rcases hgood with rfl | ⟨hp, h1, h2⟩
    · exact Or.inl rfl
    · exact Or.inr ⟨w, m, m0, hp, h1, fun j hj => ⟨(hwp.1 j hj).1, (hwp.1 j hj).2.1, m2 j hj⟩, rfl⟩
  · have h2 := push_run (n := n) (s := s) (t := t) (m := m) (raws := raws) (w := w) (i := i) (by omega) m0 (by omega) hcap (by omega) w.length 0 f (by omega) W (by rw [List.drop_zero]; exact hwp.2) (by rw [List.drop_zero]; exact fun q hq => ⟨(hwp.1 q hq).1, (hwp.1 q hq).2.1, m2 q hq⟩) r (by rw [List.drop_zero]; exact hr)
    have h1 := m3 raws (i : Int) r h2
    refine Ev.step (f := fun k => racewaylaw5_routed.j1 k raws f (i : Int) true n s t l) (fun k => ?_) (Ev.step (f := fun k => (racewaylaw5_walked.f k n s t l f raw).bind fun w => (racewaylaw5_pick.f raw 30).bind fun p => racewaylaw5_routed.l1 k raws f (i : Int) w (wrap64 (p + 1)) 0 n s t l) (fun k => ?_) (Ev.bind hw (Ev.congr (fun k => ?_) h1)))
    · simp only [racewaylaw5_routed.l0]
      rw [if_pos (by omega), decide_eq_true (by omega)]
    · simp only [racewaylaw5_routed.j1, if_true]
      rw [if_pos (by omega), if_pos (by omega), hrr]
    · rw [pick_eq r0 r1 (by omega)]
      simp only [Option.bind_some]
      rw [wrap_id (by omega) (by omega)]
      rfl
theorem steps_ev {n s t : Int} {l : List S38} (R : Right n s t l) (hcap : ∀ a ∈ l, a.f2 < 1000000000000) {raws : List Int} (hraws : ∀ x ∈ raws, (Lit.int .i64 x).wf = true) (d : Nat) :
    ∀ (i : Nat) (f : List Int), i + d = min raws.length 8 → IsFlow n s t l f → ∃ g, IsFlow n s t l g ∧ (∀ j, 0 ≤ j → rd f j ≤ rd g j) ∧ exc l f t ≤ exc l g t ∧ Ev (fun k => racewaylaw5_routed.l0 k raws f (i : Int) n s t l) g := by
  induction d with
  | zero =>
    intro i f hi F
    refine ⟨f, F, fun _ _ => Int.le_refl _, Int.le_refl _, ?_⟩
    refine Ev.step (f := fun k => racewaylaw5_routed.j1 k raws f (i : Int) false n s t l) (fun k => ?_) (Ev.step (f := fun _ => some f) (fun k => ?_) (Ev.now _))
    · simp only [racewaylaw5_routed.l0]
      by_cases c : (i : Int) < (raws.length : Int)
      · rw [if_pos c, decide_eq_false (by omega)]
      · rw [if_neg c]
    · simp [racewaylaw5_routed.j1]
  | succ d ih =>
    intro i f hi F
    have hir : i < raws.length := by omega
    obtain ⟨g, hs, hg⟩ := step_ev (raw := rd raws (i : Int)) R hcap F.within (hraws _ (rd_mem (by omega) (by omega)))
    obtain ⟨h, H1, H2, H3, H4⟩ := ih (i + 1) g (by omega) (hs.flow F)
    exact ⟨h, H1, fun j hj => Int.le_trans (hs.le F j hj) (H2 j hj), Int.le_trans (hs.value F R.ne) H3, hg raws i (by omega) hir rfl h H4⟩
/-- What routed leads is a flow. -/
theorem routed_ev {n s t : Int} {l : List S38} (R : Right n s t l) (hcap : ∀ a ∈ l, a.f2 < 1000000000000) {raws : List Int} (hraws : ∀ x ∈ raws, (Lit.int .i64 x).wf = true) :
    ∃ g, IsFlow n s t l g ∧ 0 ≤ exc l g t ∧ Ev (fun k => racewaylaw5_routed.f k n s t l raws) g := by
  have hl := R.len
  obtain ⟨g, h1, _, h2, h3⟩ := steps_ev R hcap hraws (min raws.length 8) 0 (List.replicate l.length 0) (by omega) (IsFlow.zeros R.arcs)
  rw [exc_zeros] at h2
  refine ⟨g, h1, h2, Ev.congr (fun k => ?_) h3⟩
  unfold racewaylaw5_routed.f
  rw [if_pos (by omega), if_pos (by omega)]
  rfl
end Go.Proofs.Ytbonhjjhohbggaa.Pure
