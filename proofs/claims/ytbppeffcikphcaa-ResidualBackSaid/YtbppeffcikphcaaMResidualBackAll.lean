/- Plain lists and numbers, for the law ResidualBack: no program and no memory. -/
import Derived.Test.YtbppeffcikphcaaPResidualBackx0
import Derived.Test.YtbppeffcikphcaaPResidualBackx1
import Derived.Test.YtbppeffcikphcaaPResidualBackx3
import Derived.Test.YtbppeffcikphcaaPResidualBackx4
import Derived.Test.YtbppeffcikphcaaPResidualBackx5
import Derived.Test.YtbppeffcikphcaaPResidualBackx6
import Derived.Test.YtbppeffcikphcaaPResidualBackx7
import Derived.Test.YtbppeffcikphcaaPResidualBackx8
import Derived.Test.YtbppeffcikphcaaPResidualBackx9
import Derived.Test.YtbppeffcikphcaaPResidualBackx10
import Derived.Test.YtbppeffcikphcaaPResidualBackx11
import Derived.Test.YtbppeffcikphcaaPResidualBackx12
import Derived.Lib.RabinKarpLaws
set_option linter.unusedVariables false
namespace Go.Proofs.Ytbppeffcikphcaa.Pure
open Go.RowKit Go.Proofs.Ytbppeffcikphcaa.PResidualBack Go.Proofs.YtbppeffcikphcaaW.PrintWords Go.Proofs.YtbppeffcikphcaaW.PrintLast
theorem wrap_id {x : Int} (h0 : -9223372036854775808 ≤ x) (h1 : x ≤ 9223372036854775807) : wrap64 x = x := by unfold wrap64; omega
/-- An arc between nodes 1 to n, of no capacity below 0. -/
def GoodArc (n : Int) (a : S49) : Prop := 1 ≤ a.f0 ∧ a.f0 ≤ n ∧ 1 ≤ a.f1 ∧ a.f1 ≤ n ∧ 0 ≤ a.f2
def sumCap : List S49 → Int
  | [] => 0
  | a :: t => a.f2 + sumCap t
theorem sumCap_nonneg {n : Int} {l : List S49} (h : ∀ a ∈ l, GoodArc n a) : 0 ≤ sumCap l := by
  induction l with
  | nil => exact Int.le_refl 0
  | cons a t ih =>
    have h1 := ih (fun x hx => h x (List.mem_cons_of_mem _ hx))
    have h2 := (h a List.mem_cons_self).2.2.2.2
    simp only [sumCap]; omega
theorem chk_app {n : Int} : ∀ {l m : List S49} {s : Int}, (∀ a ∈ l, GoodArc n a) → 0 ≤ s → s + sumCap l ≤ 4611686018427387903 → chkArcs n (l ++ m) s = chkArcs n m (s + sumCap l)
  | [], m, s, _, _, _ => by simp [sumCap]
  | a :: t, m, s, h, hs, hM => by
    obtain ⟨g0, g1, g2, g3, g4⟩ := h a List.mem_cons_self
    have ht : ∀ x ∈ t, GoodArc n x := fun x hx => h x (List.mem_cons_of_mem _ hx)
    have hn := sumCap_nonneg ht
    simp only [sumCap] at hM
    simp only [List.cons_append, chkArcs]
    rw [if_pos ⟨by omega, by omega⟩, if_pos ⟨g0, g1, g2, g3⟩, if_neg (by omega), if_neg (by omega), chk_app ht (by omega) (by omega)]
    simp only [sumCap]
    rw [Int.add_assoc]
theorem chk_ok {n : Int} {l : List S49} {s : Int} (h : ∀ a ∈ l, GoodArc n a) (hs : 0 ≤ s) (hM : s + sumCap l ≤ 4611686018427387903) : chkArcs n l s = some 0 := by
  have := chk_app (m := []) h hs hM
  rw [List.append_nil] at this
  rw [this, chkArcs]
/-- A right network. -/
structure Right (n s t : Int) (l : List S49) : Prop where
  n2 : 2 ≤ n
  n500 : n ≤ 500
  s1 : 1 ≤ s
  sn : s ≤ n
  t1 : 1 ≤ t
  tn : t ≤ n
  ne : s ≠ t
  len : l.length ≤ 2000
  arcs : ∀ a ∈ l, GoodArc n a
  sum : sumCap l ≤ 4611686018427387903
theorem Right.check {n s t : Int} {l : List S49} (h : Right n s t l) : net_Check.f n s t l = some 0 := by
  unfold net_Check.f
  have h1 := h.n2
  have h2 := h.n500
  have h3 := h.s1
  have h4 := h.sn
  have h5 := h.t1
  have h6 := h.tn
  have h8 := h.len
  rw [if_neg (by omega), if_neg (fun hc => hc ⟨h3, h4, h5, h6⟩), if_neg h.ne, if_neg (by omega)]
  exact chk_ok h.arcs (Int.le_refl 0) (by have := h.sum; omega)
/-- Which of n things the raw number c speaks of. -/
def pk (c n : Int) : Int := if c < 0 then Int.tmod (-(c + 1)) n else Int.tmod c n
theorem pk_range {c n : Int} (hn : 0 < n) : 0 ≤ pk c n ∧ pk c n < n := by
  unfold pk
  split
  · exact ⟨Int.tmod_nonneg _ (by omega), Int.tmod_lt_of_pos _ hn⟩
  · exact ⟨Int.tmod_nonneg _ (by omega), Int.tmod_lt_of_pos _ hn⟩
theorem wf_bounds {c : Int} (h : (Lit.int .i64 c).wf = true) : -9223372036854775808 ≤ c ∧ c ≤ 9223372036854775807 := by
  simp [Lit.wf] at h
  obtain ⟨h1, h2⟩ := h
  have e : IntKind.i64.min = -9223372036854775808 := by decide
  rw [e] at h1
  exact ⟨h1, h2⟩
theorem pick_eq {c n : Int} (h0 : -9223372036854775808 ≤ c) (h1 : c ≤ 9223372036854775807) (hn : 0 < n) : racewaylaw6_pick.f c n = some (pk c n) := by
  unfold racewaylaw6_pick.f pk
  by_cases hc : c < 0
  · have e1 : wrap64 (c + 1) = c + 1 := by unfold wrap64; omega
    have e2 : wrap64 (-(c + 1)) = -(c + 1) := by unfold wrap64; omega
    rw [if_pos hc, if_pos hc, if_neg (by omega), e1, e2]
  · rw [if_neg hc, if_neg hc, if_neg (by omega)]
/-- Amounts within the capacities. -/
def Within : List S49 → List Int → Prop
  | [], [] => True
  | a :: l, x :: f => 0 ≤ x ∧ x ≤ a.f2 ∧ Within l f
  | _, _ => False
/-- What comes in to a node, without what goes out. -/
def exc : List S49 → List Int → Int → Int
  | a :: l, x :: f, v => (if a.f1 = v then x else 0) - (if a.f0 = v then x else 0) + exc l f v
  | _, _, _ => 0
theorem exc_nil (f : List Int) (v : Int) : exc [] f v = 0 := by cases f <;> rfl
def sumL : List Int → Int
  | [] => 0
  | x :: f => x + sumL f
theorem Within.len : ∀ {l : List S49} {f : List Int}, Within l f → f.length = l.length
  | [], [], _ => rfl
  | _ :: _, _ :: _, h => by simp [Within.len h.2.2]
  | [], _ :: _, h => h.elim
  | _ :: _, [], h => h.elim
theorem Within.get : ∀ {l : List S49} {f : List Int}, Within l f → ∀ i (h : i < l.length) (h' : i < f.length), 0 ≤ f[i] ∧ f[i] ≤ (l[i]).f2
  | _ :: _, _ :: _, h, 0, _, _ => ⟨h.1, h.2.1⟩
  | _ :: l, _ :: f, h, i + 1, h1, h2 => by
    simp only [List.getElem_cons_succ]
    exact Within.get h.2.2 i (by simpa using h1) (by simpa using h2)
  | [], [], _, i, h1, _ => absurd h1 (by simp)
theorem Within.of : ∀ {l : List S49} {f : List Int}, f.length = l.length → (∀ i (h : i < l.length) (h' : i < f.length), 0 ≤ f[i] ∧ f[i] ≤ (l[i]).f2) → Within l f
  | [], [], _, _ => trivial
  | a :: l, x :: f, hl, h => by
    have h0 := h 0 (by simp) (by simp)
    exact ⟨h0.1, h0.2, Within.of (by simpa using hl) (fun i h1 h2 => by have := h (i + 1) (by simpa using h1) (by simpa using h2); simpa using this)⟩
  | [], _ :: _, hl, _ => absurd hl (by simp)
  | _ :: _, [], hl, _ => absurd hl (by simp)
theorem rd_get {f : List Int} {i : Nat} (h : i < f.length) : rd f (i : Int) = f[i] := by simp [rd, h]
theorem rdT_get {l : List S49} {i : Nat} (h : i < l.length) : rd_T49 l (i : Int) = l[i] := by simp [rd_T49, h]
theorem Within.sum : ∀ {l : List S49} {f : List Int}, Within l f → 0 ≤ sumL f ∧ sumL f ≤ sumCap l
  | [], [], _ => ⟨Int.le_refl _, Int.le_refl _⟩
  | a :: l, x :: f, h => by
    have := Within.sum h.2.2
    have h1 := h.1
    have h2 := h.2.1
    simp only [sumL, sumCap]; omega
  | [], _ :: _, h => h.elim
  | _ :: _, [], h => h.elim
theorem Within.nonneg : ∀ {l : List S49} {f : List Int}, Within l f → ∀ x ∈ f, 0 ≤ x
  | [], [], _, x, hx => by cases hx
  | a :: l, y :: f, h, x, hx => by
    rcases List.mem_cons.1 hx with rfl | hx
    · exact h.1
    · exact Within.nonneg h.2.2 x hx
  | [], _ :: _, h, _, _ => h.elim
  | _ :: _, [], h, _, _ => h.elim
theorem Within.drop : ∀ {l : List S49} {f : List Int}, Within l f → ∀ i, Within (l.drop i) (f.drop i)
  | l, f, h, 0 => by simpa using h
  | [], [], _, _ + 1 => trivial
  | _ :: _, _ :: _, h, i + 1 => by simpa using Within.drop h.2.2 i
  | [], _ :: _, h, _ + 1 => h.elim
  | _ :: _, [], h, _ + 1 => h.elim
theorem Within.zeros : ∀ {l : List S49}, (∀ a ∈ l, 0 ≤ a.f2) → Within l (List.replicate l.length 0)
  | [], _ => trivial
  | a :: l, h => ⟨Int.le_refl _, h a List.mem_cons_self, Within.zeros (fun x hx => h x (List.mem_cons_of_mem _ hx))⟩
theorem exc_zeros : ∀ (l : List S49) (n : Nat) (v : Int), exc l (List.replicate n 0) v = 0
  | [], _, _ => by simp [exc]
  | _ :: _, 0, _ => by simp [exc]
  | a :: l, n + 1, v => by
    simp only [List.replicate_succ, exc, exc_zeros l n v]
    split <;> split <;> rfl
theorem Within.set : ∀ {l : List S49} {f : List Int}, Within l f → ∀ (i : Nat) (x : Int), 0 ≤ x → (∀ h : i < l.length, x ≤ (l[i]).f2) → Within l (f.set i x)
  | [], [], _, _, _, _, _ => by simp [Within]
  | a :: l, y :: f, h, 0, x, h0, hx => ⟨h0, hx (by simp), h.2.2⟩
  | a :: l, y :: f, h, i + 1, x, h0, hx => ⟨h.1, h.2.1, Within.set h.2.2 i x h0 (fun h' => by have := hx (by simpa using h'); simpa using this)⟩
  | [], _ :: _, h, _, _, _, _ => h.elim
  | _ :: _, [], h, _, _, _, _ => h.elim
/-- A flow. -/
structure IsFlow (n s t : Int) (l : List S49) (f : List Int) : Prop where
  within : Within l f
  cons : ∀ v, 1 ≤ v → v ≤ n → v ≠ s → v ≠ t → exc l f v = 0
theorem IsFlow.zeros {n s t : Int} {l : List S49} (h : ∀ a ∈ l, GoodArc n a) : IsFlow n s t l (List.replicate l.length 0) :=
  ⟨Within.zeros (fun a ha => (h a ha).2.2.2.2), fun v _ _ _ _ => exc_zeros _ _ _⟩
theorem rd_set {xs : List Int} {j u x : Int} (h0 : 0 ≤ j) (h1 : j < (xs.length : Int)) (hu : 0 ≤ u) : rd (xs.set j.toNat x) u = if j = u then x else rd xs u := by
  unfold rd
  rw [List.getD_eq_getElem?_getD, List.getD_eq_getElem?_getD, List.getElem?_set]
  by_cases e : j = u
  · subst e
    rw [if_pos rfl, if_pos (by omega), if_pos rfl]; rfl
  · rw [if_neg (by omega), if_neg e]
theorem sumL_drop {f : List Int} {i : Nat} (h : i < f.length) : sumL (f.drop i) = f[i] + sumL (f.drop (i + 1)) := by
  rw [List.drop_eq_getElem_cons h]; rfl
theorem sumL_nonneg : ∀ {g : List Int}, (∀ x ∈ g, 0 ≤ x) → 0 ≤ sumL g
  | [], _ => Int.le_refl _
  | y :: g, h => by
    have h1 := sumL_nonneg (g := g) (fun x hx => h x (List.mem_cons_of_mem _ hx))
    have h2 := h y List.mem_cons_self
    simp only [sumL]; omega
theorem exc_loop {n : Int} {l : List S49} {f : List Int} (hg : ∀ a ∈ l, GoodArc n a) (hf : ∀ x ∈ f, 0 ≤ x) (hlen : f.length = l.length) (hS : sumL f ≤ 4611686018427387903) (hl : l.length ≤ 2000) (d : Nat) :
    ∀ (i : Nat) (out : List Int), i + d = l.length → (out.length : Int) = n + 1 → (∀ v, 0 ≤ v → v ≤ n → -(sumL f - sumL (f.drop i)) ≤ rd out v ∧ rd out v ≤ sumL f - sumL (f.drop i)) →
      ∃ out', Ev (fun k => flow_excesses.l0 k f out l (l.length : Int) (i : Int)) out' ∧ (out'.length : Int) = n + 1 ∧ ∀ v, 0 ≤ v → v ≤ n → rd out' v = rd out v + exc (l.drop i) (f.drop i) v := by
  induction d with
  | zero =>
    intro i out hi ho _
    refine ⟨out, Ev.step (f := fun _ => some out) (fun k => ?_) (Ev.now _), ho, fun v _ _ => ?_⟩
    · simp only [flow_excesses.l0]
      rw [if_neg (by omega)]
    · rw [List.drop_of_length_le (show l.length ≤ i by omega), exc_nil]; omega
  | succ d ih =>
    intro i out hi ho hb
    have hil : i < l.length := by omega
    have hif : i < f.length := by omega
    obtain ⟨g0, g1, g2, g3, _⟩ := hg l[i] (List.getElem_mem hil)
    have hx0 := hf f[i] (List.getElem_mem hif)
    have hsd := sumL_drop hif
    have hsn := sumL_nonneg (g := f.drop (i + 1)) (fun x hx => hf x (List.mem_of_mem_drop hx))
    have b0 := hb (l[i]).f0 (by omega) g1
    have e1 : wrap64 (rd out (l[i]).f0 - f[i]) = rd out (l[i]).f0 - f[i] := wrap_id (by omega) (by omega)
    have hr1 : ∀ u, 0 ≤ u → rd (out.set ((l[i]).f0).toNat (rd out (l[i]).f0 - f[i])) u = if (l[i]).f0 = u then rd out (l[i]).f0 - f[i] else rd out u := fun u hu => rd_set (by omega) (by omega) hu
    have b1 := hb (l[i]).f1 (by omega) g3
    have e2 : wrap64 (rd (out.set ((l[i]).f0).toNat (rd out (l[i]).f0 - f[i])) (l[i]).f1 + f[i]) = rd (out.set ((l[i]).f0).toNat (rd out (l[i]).f0 - f[i])) (l[i]).f1 + f[i] := by
      have := hr1 (l[i]).f1 (by omega)
      rw [this]
      split <;> exact wrap_id (by omega) (by omega)
    have hr2 : ∀ u, 0 ≤ u → rd ((out.set ((l[i]).f0).toNat (rd out (l[i]).f0 - f[i])).set ((l[i]).f1).toNat (rd (out.set ((l[i]).f0).toNat (rd out (l[i]).f0 - f[i])) (l[i]).f1 + f[i])) u = rd out u + ((if (l[i]).f1 = u then f[i] else 0) - (if (l[i]).f0 = u then f[i] else 0)) := by
      intro u hu
      rw [rd_set (by omega) (by rw [List.length_set]; omega) hu, hr1 (l[i]).f1 (by omega), hr1 u hu]
      by_cases c1 : (l[i]).f1 = u
      · by_cases c0 : (l[i]).f0 = u
        · rw [if_pos c1, if_pos (by omega), if_pos c1, if_pos c0, c0]; omega
        · rw [if_pos c1, if_neg (by omega), if_pos c1, if_neg c0, c1]; omega
      · by_cases c0 : (l[i]).f0 = u
        · rw [if_neg c1, if_pos c0, if_neg c1, if_pos c0, c0]; omega
        · rw [if_neg c1, if_neg c0, if_neg c1, if_neg c0]; omega
    obtain ⟨Y, hYd⟩ : ∃ Y, ((out.set ((l[i]).f0).toNat (rd out (l[i]).f0 - f[i])).set ((l[i]).f1).toNat (rd (out.set ((l[i]).f0).toNat (rd out (l[i]).f0 - f[i])) (l[i]).f1 + f[i])) = Y := ⟨_, rfl⟩
    rw [hYd] at hr2
    obtain ⟨out', h1, h2, h3⟩ := ih (i + 1) Y (by omega) (by rw [← hYd, List.length_set, List.length_set]; exact ho) (fun v hv0 hv1 => by
      have hbv := hb v hv0 hv1
      have e := hr2 v hv0
      rw [e]
      by_cases c1 : (l[i]).f1 = v
      · by_cases c0 : (l[i]).f0 = v
        · rw [if_pos c1, if_pos c0]; omega
        · rw [if_pos c1, if_neg c0]; omega
      · by_cases c0 : (l[i]).f0 = v
        · rw [if_neg c1, if_pos c0]; omega
        · rw [if_neg c1, if_neg c0]; omega)
    refine ⟨out', Ev.step (fun k => ?_) h1, h2, fun v hv0 hv1 => ?_⟩
    · simp only [flow_excesses.l0]
      rw [if_pos (by omega), if_pos (by omega), if_pos (by omega), rdT_get hil, rd_get hif, if_pos (by omega), if_pos (by omega), if_pos (by omega), e1]
      simp only [Option.bind_some]
      rw [if_pos (by omega), if_pos (by omega), e2, wrap_id (by omega) (by omega), hYd]
      rfl
    · rw [h3 v hv0 hv1, hr2 v hv0, List.drop_eq_getElem_cons hil, List.drop_eq_getElem_cons hif]
      simp only [exc]; omega
theorem rd_replicate (m : Nat) (v : Int) : rd (List.replicate m 0) v = 0 := by
  unfold rd
  rw [List.getD_eq_getElem?_getD, List.getElem?_replicate]
  split <;> rfl
/-- All excesses. -/
theorem excesses_ev {n s t : Int} {l : List S49} {f : List Int} (R : Right n s t l) (W : Within l f) :
    ∃ out, Ev (fun k => flow_excesses.f k n s t l f) out ∧ (out.length : Int) = n + 1 ∧ ∀ v, 0 ≤ v → v ≤ n → rd out v = exc l f v := by
  have h1 := R.n2
  have h2 := R.n500
  have hs := W.sum
  have hR := R.sum
  obtain ⟨out, ho, hl, hv⟩ := exc_loop R.arcs W.nonneg W.len (by omega) R.len l.length 0 (List.replicate (n + 1).toNat 0) (by omega) (by simp; omega) (fun v _ _ => by rw [rd_replicate, List.drop_zero]; omega)
  refine ⟨out, Ev.congr (fun k => ?_) ho, hl, fun v h0 h3 => ?_⟩
  · unfold flow_excesses.f
    rw [wrap_id (x := n + 1) (by omega) (by omega), if_pos (by omega), if_pos (by omega)]
    rfl
  · rw [hv v h0 h3, rd_replicate, List.drop_zero, List.drop_zero]; omega
theorem within_loop {n s t : Int} {l : List S49} {f : List Int} (W : Within l f) (hl : l.length ≤ 2000) (d : Nat) : ∀ i : Nat, i + d = f.length → Ev (fun k => flow_within.l0 k f (f.length : Int) (i : Int) n s t l) 0 := by
  have hlen := W.len
  induction d with
  | zero =>
    intro i hi
    refine Ev.step (f := fun _ => some 0) (fun k => ?_) (Ev.now _)
    simp only [flow_within.l0]
    rw [if_neg (by omega)]
  | succ d ih =>
    intro i hi
    have hif : i < f.length := by omega
    have hil : i < l.length := by omega
    have hb := W.get i hil hif
    refine Ev.step (fun k => ?_) (ih (i + 1) (by omega))
    simp only [flow_within.l0]
    rw [if_pos (by omega), if_pos (by omega), if_pos (by omega), rd_get hif, rdT_get hil, if_neg (by omega), if_pos (by omega), if_neg (by omega), wrap_id (by omega) (by omega)]
    rfl
theorem within_yes {n s t : Int} {l : List S49} {f : List Int} (R : Right n s t l) (W : Within l f) : Ev (fun k => flow_within.f k n s t l f) 0 := by
  have hlen := W.len
  refine Ev.congr (fun k => ?_) (within_loop (n := n) (s := s) (t := t) W R.len f.length 0 (by omega))
  unfold flow_within.f
  rw [R.check]
  simp only [Option.bind_some, if_true]
  rw [if_pos (by omega)]
  rfl
theorem check_loop {n s t : Int} {l : List S49} {x : List Int} (hn : n ≤ 500) (hx : (x.length : Int) = n + 1) (d : Nat) : ∀ i : Nat, (i : Int) + d = n → (∀ v, (i : Int) < v → v ≤ n → v ≠ s → v ≠ t → rd x v = 0) →
    Ev (fun k => flow_Check.l0 k x n (i : Int) n s t l) 0 := by
  induction d with
  | zero =>
    intro i hi _
    refine Ev.step (f := fun _ => some 0) (fun k => ?_) (Ev.now _)
    simp only [flow_Check.l0]
    rw [if_neg (by omega)]
  | succ d ih =>
    intro i hi hz
    refine Ev.step (fun k => ?_) (ih (i + 1) (by omega) (fun v h1 h2 h3 h4 => hz v (by omega) h2 h3 h4))
    simp only [flow_Check.l0]
    rw [if_pos (by omega), wrap_id (by omega) (by omega)]
    by_cases c1 : (i : Int) + 1 = s
    · rw [if_pos c1]; rfl
    · by_cases c2 : (i : Int) + 1 = t
      · rw [if_neg c1, if_pos c2]; rfl
      · rw [if_neg c1, if_neg c2, if_pos (by omega), if_pos (by omega), if_pos (hz _ (by omega) (by omega) c1 c2)]; rfl
theorem check_flow {n s t : Int} {l : List S49} {f : List Int} (R : Right n s t l) (F : IsFlow n s t l f) : Ev (fun k => flow_Check.f k n s t l f) 0 := by
  obtain ⟨x, h1, h2, h3⟩ := excesses_ev R F.within
  have hn := R.n2
  unfold flow_Check.f
  refine Ev.bind (within_yes R F.within) ?_
  simp only [if_true]
  refine Ev.bind h1 ?_
  exact check_loop R.n500 h2 n.toNat 0 (by omega) (fun v hv1 hv2 hv3 hv4 => by rw [h3 v (by omega) hv2]; exact F.cons v (by omega) hv2 hv3 hv4)
/-- A walk along arcs, by their numbers. -/
def Path (l : List S49) : Int → List Int → Int → Prop
  | u, [], v => u = v
  | u, i :: w, v => (rd_T49 l i).f0 = u ∧ Path l (rd_T49 l i).f1 w v
theorem Path.snoc {l : List S49} : ∀ {w : List Int} {u v i : Int}, Path l u w v → (rd_T49 l i).f0 = v → Path l u (w ++ [i]) (rd_T49 l i).f1
  | [], u, v, i, h, hi => ⟨by rw [hi]; exact h.symm, rfl⟩
  | _ :: w, u, v, i, h, hi => ⟨h.1, Path.snoc h.2 hi⟩
theorem wrap_succ {i : Nat} (h : i ≤ 1000000) : wrap64 ((i : Int) + 1) = ((i + 1 : Nat) : Int) := by rw [wrap_id (by omega) (by omega)]; rfl
theorem rdT_mem {l : List S49} {i : Int} (h0 : 0 ≤ i) (h1 : i < (l.length : Int)) : rd_T49 l i ∈ l := by
  have hlt : i.toNat < l.length := by omega
  have : rd_T49 l i = l[i.toNat] := by unfold rd_T49; rw [List.getD_eq_getElem?_getD, List.getElem?_eq_getElem hlt]; rfl
  rw [this]; exact List.getElem_mem hlt
theorem rd_nat {f : List Int} {j : Int} (h0 : 0 ≤ j) (h1 : j < (f.length : Int)) (h : j.toNat < f.length) : f[j.toNat] = rd f j := by
  unfold rd; rw [List.getD_eq_getElem?_getD, List.getElem?_eq_getElem h]; rfl
theorem rdT_nat {l : List S49} {j : Int} (h0 : 0 ≤ j) (h1 : j < (l.length : Int)) (h : j.toNat < l.length) : l[j.toNat] = rd_T49 l j := by
  unfold rd_T49; rw [List.getD_eq_getElem?_getD, List.getElem?_eq_getElem h]; rfl
/-! Residual tracks: r leads along arc r/2, backwards where r is odd. -/
theorem bit_odd {r : Int} (h0 : 0 ≤ r) (h1 : r ≤ 1000000) : Go.bits .and .i64 r 1 = r % 2 := by
  obtain ⟨i, rfl⟩ : ∃ i : Nat, r = (i : Int) := ⟨r.toNat, by omega⟩
  rw [Go.Proofs.and_one i (by omega)]; omega
theorem tdiv2 {r : Int} (h0 : 0 ≤ r) : Int.tdiv r 2 = r / 2 := Int.tdiv_eq_ediv_of_nonneg h0
def fromOf (l : List S49) (r : Int) : Int := if r % 2 = 1 then (rd_T49 l (r / 2)).f1 else (rd_T49 l (r / 2)).f0
def toOf (l : List S49) (r : Int) : Int := if r % 2 = 1 then (rd_T49 l (r / 2)).f0 else (rd_T49 l (r / 2)).f1
def InR (l : List S49) (r : Int) : Prop := 0 ≤ r ∧ r < 2 * (l.length : Int)
theorem ends_ev {n s t r : Int} {l : List S49} (h : InR l r) (hl : l.length ≤ 2000) : Ev (fun k => residual_Ends.f k n s t l r) (fromOf l r, toOf l r) := by
  obtain ⟨h0, h1⟩ := h
  have hd : wrap64 (Int.tdiv r 2) = r / 2 := by rw [tdiv2 h0, wrap_id (by omega) (by omega)]
  have e : Ev (fun k => residual_Ends.j0 k r (decide (wrap64 (Int.tdiv r 2) ≥ (l.length : Int))) n s t l) (fromOf l r, toOf l r) := by
    refine Ev.step (f := fun _ => some (fromOf l r, toOf l r)) (fun k => ?_) (Ev.now _)
    simp only [residual_Ends.j0, hd, bit_odd h0 (show r ≤ 1000000 by omega)]
    rw [if_neg (by simp; omega), if_pos (by omega), if_pos (by omega)]
    unfold fromOf toOf
    by_cases c : r % 2 = 1
    · rw [if_pos c, if_pos c, if_pos c]
    · rw [if_neg c, if_neg c, if_neg c]
  refine Ev.congr (fun k => ?_) e
  unfold residual_Ends.f
  rw [if_neg (by omega)]
theorem ends_range {n : Int} {l : List S49} {r : Int} (hg : ∀ a ∈ l, GoodArc n a) (h : InR l r) : 1 ≤ fromOf l r ∧ fromOf l r ≤ n ∧ 1 ≤ toOf l r ∧ toOf l r ≤ n := by
  obtain ⟨h0, h1⟩ := h
  obtain ⟨g0, g1, g2, g3, _⟩ := hg _ (rdT_mem (l := l) (i := r / 2) (by omega) (by omega))
  unfold fromOf toOf
  split <;> omega
/-- A walk along residual tracks. -/
def RPath (l : List S49) : Int → List Int → Int → Prop
  | u, [], v => u = v
  | u, r :: w, v => fromOf l r = u ∧ RPath l (toOf l r) w v
theorem RPath.snoc {l : List S49} : ∀ {w : List Int} {u v r : Int}, RPath l u w v → fromOf l r = v → RPath l u (w ++ [r]) (toOf l r)
  | [], u, v, r, h, hr => ⟨by rw [hr]; exact h.symm, rfl⟩
  | _ :: w, u, v, r, h, hr => ⟨h.1, RPath.snoc h.2 hr⟩
/-- What an amount m means for the arc. -/
def rm (r m : Int) : Int := if r % 2 = 1 then -m else m
def rpush (f : List Int) (m : Int) : List Int → List Int
  | [] => f
  | r :: w => rpush (f.set (r / 2).toNat (rd f (r / 2) + rm r m)) m w
theorem rpush_length (m : Int) : ∀ (w : List Int) (f : List Int), (rpush f m w).length = f.length
  | [], _ => rfl
  | r :: w, f => by rw [rpush, rpush_length m w, List.length_set]
def dm (m i : Int) : List Int → Int
  | [] => 0
  | r :: w => (if r / 2 = i then rm r m else 0) + dm m i w
theorem rpush_rd {m : Int} : ∀ {w : List Int} {f : List Int}, (∀ r ∈ w, 0 ≤ r ∧ r < 2 * (f.length : Int)) → ∀ i, 0 ≤ i → rd (rpush f m w) i = rd f i + dm m i w
  | [], f, _, i, _ => by simp [rpush, dm]
  | r :: w, f, h, i, hi => by
    obtain ⟨h0, h1⟩ := h r List.mem_cons_self
    rw [rpush, rpush_rd (fun q hq => by rw [List.length_set]; exact h q (List.mem_cons_of_mem _ hq)) i hi, rd_set (by omega) (by omega) hi]
    simp only [dm]
    by_cases e : r / 2 = i
    · rw [if_pos e, if_pos e, e]; omega
    · rw [if_neg e, if_neg e]; omega
theorem rd_ext {f g : List Int} (hl : f.length = g.length) (h : ∀ i, 0 ≤ i → rd f i = rd g i) : f = g := by
  refine List.ext_getElem hl (fun i h1 h2 => ?_)
  have := h (i : Int) (by omega)
  rwa [rd_get h1, rd_get h2] at this
/-- The amount m fits along the walk. -/
def Fits (l : List S49) (f : List Int) (m : Int) (w : List Int) : Prop := ∀ r ∈ w, 0 ≤ rd f (r / 2) + rm r m ∧ rd f (r / 2) + rm r m ≤ (rd_T49 l (r / 2)).f2
theorem within_rd {l : List S49} {f : List Int} (W : Within l f) {i : Int} (h0 : 0 ≤ i) (h1 : i < (l.length : Int)) : 0 ≤ rd f i ∧ rd f i ≤ (rd_T49 l i).f2 := by
  have hlen := W.len
  have hb := W.get i.toNat (by omega) (by omega)
  rwa [rd_nat h0 (by omega) (by omega), rdT_nat h0 h1 (by omega)] at hb
theorem within_of_rd {l : List S49} {f : List Int} (hlen : f.length = l.length) (h : ∀ i, 0 ≤ i → i < (l.length : Int) → 0 ≤ rd f i ∧ rd f i ≤ (rd_T49 l i).f2) : Within l f :=
  Within.of hlen (fun i h1 h2 => by have := h (i : Int) (by omega) (by omega); rwa [rd_get h2, rdT_get h1] at this)
theorem roomOf_len : ∀ {l : List S49} {f : List Int}, f.length = l.length → (roomOf l f).length = 2 * l.length
  | [], [], _ => rfl
  | a :: l, x :: f, h => by
    have := roomOf_len (l := l) (f := f) (by simpa using h)
    simp only [roomOf, List.length_cons, this]; omega
  | [], _ :: _, h => absurd h (by simp)
  | _ :: _, [], h => absurd h (by simp)
theorem roomOf_get : ∀ {l : List S49} {f : List Int} (W : Within l f) (hcap : ∀ a ∈ l, a.f2 < 1000000000000) (i : Nat), i < l.length →
    (roomOf l f)[2 * i]? = some ((rd_T49 l (i : Int)).f2 - rd f (i : Int)) ∧ (roomOf l f)[2 * i + 1]? = some (rd f (i : Int))
  | [], _, _, _, i, h => absurd h (by simp)
  | _ :: _, [], W, _, _, _ => W.elim
  | a :: l, x :: f, W, hcap, 0, _ => by
    have h0 := W.1
    have h1 := W.2.1
    have h2 := hcap a List.mem_cons_self
    simp only [roomOf, rd, rd_T49]
    simp only [Nat.mul_zero, Nat.zero_add, List.getElem?_cons_zero, List.getElem?_cons_succ]
    rw [wrap_id (by omega) (by omega)]
    exact ⟨rfl, rfl⟩
  | a :: l, x :: f, W, hcap, i + 1, h => by
    have ih := roomOf_get W.2.2 (fun b hb => hcap b (List.mem_cons_of_mem _ hb)) i (by simpa using h)
    have e1 : rd (x :: f) ((i + 1 : Nat) : Int) = rd f (i : Int) := by
      unfold rd
      rw [show ((i + 1 : Nat) : Int).toNat = i + 1 by omega, show (i : Int).toNat = i by omega]; rfl
    have e2 : rd_T49 (a :: l) ((i + 1 : Nat) : Int) = rd_T49 l (i : Int) := by
      unfold rd_T49
      rw [show ((i + 1 : Nat) : Int).toNat = i + 1 by omega, show (i : Int).toNat = i by omega]; rfl
    rw [e1, e2]
    simp only [roomOf]
    rw [show 2 * (i + 1) = 2 * i + 1 + 1 by omega, show 2 * i + 1 + 1 + 1 = (2 * i + 1) + 1 + 1 by omega]
    simp only [List.getElem?_cons_succ]
    exact ih
theorem roomOf_rd {l : List S49} {f : List Int} (W : Within l f) (hcap : ∀ a ∈ l, a.f2 < 1000000000000) {i : Int} (h0 : 0 ≤ i) (h1 : i < (l.length : Int)) :
    rd (roomOf l f) (2 * i) = (rd_T49 l i).f2 - rd f i ∧ rd (roomOf l f) (2 * i + 1) = rd f i := by
  obtain ⟨j, rfl⟩ : ∃ j : Nat, i = (j : Int) := ⟨i.toNat, by omega⟩
  obtain ⟨a, b⟩ := roomOf_get W hcap j (by omega)
  constructor
  · show (roomOf l f).getD (2 * (j : Int)).toNat 0 = _
    rw [List.getD_eq_getElem?_getD, show (2 * (j : Int)).toNat = 2 * j by omega, a]; rfl
  · show (roomOf l f).getD (2 * (j : Int) + 1).toNat 0 = _
    rw [List.getD_eq_getElem?_getD, show (2 * (j : Int) + 1).toNat = 2 * j + 1 by omega, b]; rfl
theorem room_ev {n s t : Int} {l : List S49} {f : List Int} (R : Right n s t l) (F : IsFlow n s t l f) : Ev (fun k => residual_Room.f k n s t l f) (roomOf l f, 0) := by
  have hlen := F.within.len
  have hl := R.len
  unfold residual_Room.f
  refine Ev.bind (check_flow R F) ?_
  have c : f.length ≤ l.length ∧ f.length ≤ 8796093022208 := by omega
  simp only [if_true, if_pos c]
  exact Ev.now _
theorem tracks_at2 {fr : Int → Int} {m : Nat} : ∀ (N v : Nat), v < m → ∃ x, (Go.Proofs.YtbppeffcikphcaaW.Mine.trAll fr m N)[v]? = some x ∧ ∀ r, (0 ≤ r ∧ r < (N : Int) ∧ (fr r).toNat = v) ↔ r ∈ x
  | 0, v, h => ⟨[], by simp [Go.Proofs.YtbppeffcikphcaaW.Mine.trAll, h], fun r => ⟨fun hr => by omega, fun hr => by cases hr⟩⟩
  | N + 1, v, h => by
    obtain ⟨x, hx, hr⟩ := tracks_at2 (fr := fr) (m := m) N v h
    have hl := Go.Proofs.YtbppeffcikphcaaW.Mine.trAll_length fr m N
    simp only [Go.Proofs.YtbppeffcikphcaaW.Mine.trAll, Go.Proofs.YtbppeffcikphcaaW.Mine.trAdd]
    by_cases c : (fr (N : Int)).toNat = v
    · rw [c]
      have e : (Go.Proofs.YtbppeffcikphcaaW.Mine.trAll fr m N).getD v [] = x := by rw [List.getD_eq_getElem?_getD, hx]; rfl
      refine ⟨x ++ [(N : Int)], by rw [List.getElem?_set_self (by omega), e], fun r => ?_⟩
      rw [List.mem_append, List.mem_singleton, ← hr r]
      constructor
      · intro h1
        by_cases c2 : r = (N : Int)
        · exact .inr c2
        · exact .inl ⟨h1.1, by omega, h1.2.2⟩
      · rintro (h1 | rfl)
        · exact ⟨h1.1, by omega, h1.2.2⟩
        · exact ⟨by omega, by omega, c⟩
    · refine ⟨x, by rw [List.getElem?_set_ne c]; exact hx, fun r => ?_⟩
      rw [← hr r]
      constructor
      · intro h1
        refine ⟨h1.1, ?_, h1.2.2⟩
        by_cases c2 : r = (N : Int)
        · subst c2; exact absurd h1.2.2 c
        · omega
      · intro h1
        exact ⟨h1.1, by omega, h1.2.2⟩
/-! What the search tells: which nodes it meets. -/
theorem rdB_set {m : List Bool} {q v : Int} {b : Bool} (q0 : 0 ≤ q) (q1 : q < (m.length : Int)) (v0 : 0 ≤ v) : rdOf false (m.set q.toNat b) v = if q = v then b else rdOf false m v := by
  unfold rdOf
  rw [List.getD_eq_getElem?_getD, List.getD_eq_getElem?_getD, List.getElem?_set]
  by_cases e : q = v
  · subst e
    rw [if_pos rfl, if_pos (by omega), if_pos rfl]; rfl
  · rw [if_neg (by omega), if_neg e]
def cntB : List Bool → Nat
  | [] => 0
  | x :: t => (if x = false then 1 else 0) + cntB t
theorem cntB_set : ∀ {m : List Bool} {i : Nat} (h : i < m.length), m[i] = false → cntB (m.set i true) + 1 = cntB m
  | [], i, h, _ => absurd h (by simp)
  | y :: t, 0, _, hy => by
    have hy : y = false := hy
    subst hy
    simp only [List.set_cons_zero, cntB, if_true]
    simp
    omega
  | y :: t, i + 1, h, hy => by
    have h1 : i < t.length := by simpa using h
    have ih := cntB_set h1 (by simpa using hy)
    simp only [List.set_cons_succ, cntB]
    omega
theorem cntB_replicate : ∀ k, cntB (List.replicate k false) = k
  | 0 => rfl
  | k + 1 => by rw [List.replicate_succ, cntB, cntB_replicate k, if_pos rfl]; omega
/-- What was met, as it must be. -/
structure IsMet (n s : Int) (l : List S49) (room : List Int) (least : Int) (met : List Bool) : Prop where
  len : (met.length : Int) = n + 1
  src : rdOf false met s = true
  step : ∀ r, InR l r → least ≤ rd room r → rdOf false met (fromOf l r) = true → rdOf false met (toOf l r) = true
  min : ∀ P : Int → Prop, P s → (∀ r, InR l r → least ≤ rd room r → P (fromOf l r) → P (toOf l r)) → ∀ v, 0 ≤ v → v ≤ n → rdOf false met v = true → P v
structure RInv (n s : Int) (l : List S49) (room : List Int) (least : Int) (ts : List (List Int)) (met : List Bool) (wait : List Int) : Prop where
  len : (met.length : Int) = n + 1
  tlen : ts.length = met.length
  cnt : wait.length + cntB met ≤ met.length
  src : rdOf false met s = true
  wtd : ∀ v ∈ wait, 1 ≤ v ∧ v ≤ n ∧ rdOf false met v = true
  trk : ∀ v, 1 ≤ v → v ≤ n → ∀ r ∈ ts.getD v.toNat [], InR l r ∧ fromOf l r = v
  done : ∀ r, InR l r → least ≤ rd room r → r ∉ ts.getD (fromOf l r).toNat [] → rdOf false met (toOf l r) = true
  all : ∀ r, InR l r → least ≤ rd room r → rdOf false met (fromOf l r) = true → fromOf l r ∉ wait → rdOf false met (toOf l r) = true
  min : ∀ P : Int → Prop, P s → (∀ r, InR l r → least ≤ rd room r → P (fromOf l r) → P (toOf l r)) → ∀ v, 0 ≤ v → v ≤ n → rdOf false met v = true → P v
section
variable {n s least : Int} {l : List S49} {room : List Int}
theorem find_none {met : List Bool} : ∀ {rs : List Int}, rcFind l room least met rs = none → ∀ r ∈ rs, least ≤ rd room r → rdOf false met (toOf l r) = true
  | [], _, r, hr, _ => by cases hr
  | q :: rs, h, r, hr, hroom => by
    have et : rcTo l q = toOf l q := rfl
    rw [rcFind, et] at h
    by_cases c : least ≤ rd room q ∧ rdOf false met (toOf l q) = false
    · rw [if_pos c] at h; cases h
    · rw [if_neg c] at h
      rcases List.mem_cons.1 hr with rfl | hr
      · cases e : rdOf false met (toOf l r) with
        | true => rfl
        | false => exact absurd ⟨hroom, e⟩ c
      · exact find_none h r hr hroom
theorem find_some {met : List Bool} {v : Int} {tl : List Int} : ∀ {rs : List Int}, rcFind l room least met rs = some (v, tl) →
    ∃ q ∈ rs, least ≤ rd room q ∧ toOf l q = v ∧ rdOf false met v = false ∧ (∀ r ∈ tl, r ∈ rs) ∧ ∀ r ∈ rs, r ∉ tl → r = q ∨ (least ≤ rd room r → rdOf false met (toOf l r) = true)
  | [], h => by cases h
  | q :: rs, h => by
    have et : rcTo l q = toOf l q := rfl
    rw [rcFind, et] at h
    by_cases c : least ≤ rd room q ∧ rdOf false met (toOf l q) = false
    · rw [if_pos c] at h
      have h := Option.some.inj h
      have e1 : toOf l q = v := congrArg Prod.fst h
      have e2 : rs = tl := congrArg Prod.snd h
      subst e2
      refine ⟨q, List.mem_cons_self, c.1, e1, by rw [← e1]; exact c.2, fun r hr => List.mem_cons_of_mem _ hr, fun r hr hn => ?_⟩
      rcases List.mem_cons.1 hr with e | hr
      · exact .inl e
      · exact absurd hr hn
    · rw [if_neg c] at h
      obtain ⟨p, hp, h1, h2, h3, h4, h5⟩ := find_some h
      refine ⟨p, List.mem_cons_of_mem _ hp, h1, h2, h3, fun r hr => List.mem_cons_of_mem _ (h4 r hr), fun r hr hn => ?_⟩
      rcases List.mem_cons.1 hr with rfl | hr
      · right
        intro hroom
        cases e : rdOf false met (toOf l r) with
        | true => rfl
        | false => exact absurd ⟨hroom, e⟩ c
      · exact h5 r hr hn
theorem getD_set {ts : List (List Int)} {x : List Int} {i j : Nat} (h : i < ts.length) : (ts.set i x).getD j [] = if i = j then x else ts.getD j [] := by
  rw [List.getD_eq_getElem?_getD, List.getD_eq_getElem?_getD, List.getElem?_set]
  by_cases e : i = j
  · rw [if_pos e, if_pos (by omega), if_pos e]; rfl
  · rw [if_neg e, if_neg e]
theorem take_last {w : List Int} (h : w ≠ []) : w = w.take (w.length - 1) ++ [rd w ((w.length : Int) - 1)] := by
  have hl : 0 < w.length := List.length_pos_iff.2 h
  have e : rd w ((w.length : Int) - 1) = w[w.length - 1]'(by omega) := by
    unfold rd
    have e1 : ((w.length : Int) - 1).toNat = w.length - 1 := by omega
    rw [e1, List.getD_eq_getElem?_getD, List.getElem?_eq_getElem (by omega)]; rfl
  rw [e]
  have h1 := List.take_succ_eq_append_getElem (l := w) (i := w.length - 1) (by omega)
  rw [← h1, List.take_of_length_le (by omega)]
theorem rcwalk_ev (hg : ∀ a ∈ l, GoodArc n a) (hn : n ≤ 500) (d : Nat) :
    ∀ (ts : List (List Int)) (met : List Bool) (wait : List Int), 2 * cntB met + wait.length ≤ d → RInv n s l room least ts met wait → ∃ m, Ev (fun k => rcWalk l room least k ts met wait) m ∧ IsMet n s l room least m := by
  induction d with
  | zero =>
    intro ts met wait hd I
    have hz : wait.length = 0 := by omega
    have hz2 : wait = [] := List.length_eq_zero_iff.1 hz
    refine ⟨met, Ev.step (f := fun _ => some met) (fun k => ?_) (Ev.now _), ⟨I.len, I.src, fun r hr hroom h => I.all r hr hroom h (by rw [hz2]; exact fun h => by (cases h)), I.min⟩⟩
    simp only [rcWalk]
    rw [if_pos hz]
  | succ d ih =>
    intro ts met wait hd I
    by_cases hz : wait.length = 0
    · have hz2 : wait = [] := List.length_eq_zero_iff.1 hz
      refine ⟨met, Ev.step (f := fun _ => some met) (fun k => ?_) (Ev.now _), ⟨I.len, I.src, fun r hr hroom h => I.all r hr hroom h (by rw [hz2]; exact fun h => by (cases h)), I.min⟩⟩
      simp only [rcWalk]
      rw [if_pos hz]
    · have hne : wait ≠ [] := fun e => hz (by rw [e]; rfl)
      have hw := take_last hne
      have hcnt := I.cnt
      have hlen := I.len
      have htl := I.tlen
      have hwl : wait.length ≤ 1000000 := by omega
      obtain ⟨v, hv⟩ : ∃ v, rd wait ((wait.length : Int) - 1) = v := ⟨_, rfl⟩
      obtain ⟨w, hwd⟩ : ∃ w, wait.take (wait.length - 1) = w := ⟨_, rfl⟩
      have hwlen : w.length + 1 = wait.length := by rw [← hwd, List.length_take]; omega
      rw [hv, hwd] at hw
      obtain ⟨v1, vn, hmv⟩ := I.wtd v (by rw [hw]; exact List.mem_append.2 (.inr (List.mem_singleton.2 rfl)))
      cases hf : rcFind l room least met (ts.getD v.toNat []) with
      | none =>
        obtain ⟨m, hm, M⟩ := ih ts met w (by omega) ⟨I.len, I.tlen, by omega, I.src, fun u hu => I.wtd u (by rw [hw]; exact List.mem_append.2 (.inl hu)), I.trk, I.done, fun r hr hroom h hnw => by
          by_cases c : fromOf l r = v
          · by_cases c2 : r ∈ ts.getD v.toNat []
            · exact find_none hf r c2 hroom
            · exact I.done r hr hroom (by rw [c]; exact c2)
          · refine I.all r hr hroom h (fun hc => ?_)
            rw [hw] at hc
            rcases List.mem_append.1 hc with hc | hc
            · exact hnw hc
            · exact c (List.mem_singleton.1 hc), I.min⟩
        refine ⟨m, Ev.step (fun k => ?_) hm, M⟩
        simp only [rcWalk]
        rw [if_neg hz, if_pos hwl, hv, hf, hwd]
      | some p =>
        obtain ⟨q, tl⟩ := p
        obtain ⟨r0, hr0, hroom0, hto, hmq, hsub, hold⟩ := find_some hf
        obtain ⟨hi0, hfrom⟩ := I.trk v v1 vn r0 hr0
        obtain ⟨_, _, t1, tn⟩ := ends_range hg hi0
        rw [hto] at t1 tn
        have hset : ∀ u, 0 ≤ u → rdOf false (met.set q.toNat true) u = if q = u then true else rdOf false met u := fun u hu => rdB_set (by omega) (by omega) hu
        have hkeep : ∀ u, 0 ≤ u → rdOf false met u = true → rdOf false (met.set q.toNat true) u = true := fun u hu h => by rw [hset u hu]; split; rfl; exact h
        have hgd : ∀ j : Nat, (ts.set v.toNat tl).getD j [] = if v.toNat = j then tl else ts.getD j [] := fun j => getD_set (by omega)
        have hqn : q.toNat < met.length := by omega
        have hget : met[q.toNat] = false := by
          have h := hmq
          unfold rdOf at h
          rw [List.getD_eq_getElem?_getD, List.getElem?_eq_getElem hqn] at h
          exact h
        have hcs := cntB_set hqn hget
        have hsn : 0 ≤ s := by
          apply Classical.byContradiction
          intro hc
          have h1 := I.src
          have e : rdOf false met s = rdOf false met 0 := by unfold rdOf; rw [show s.toNat = (0 : Int).toNat by omega]
          rw [e] at h1
          have h2 := I.min (fun u => u ≠ 0) (by omega) (fun r hr _ _ => by have := ends_range hg hr; omega) 0 (by omega) (by omega) h1
          exact h2 rfl
        obtain ⟨m, hm, M⟩ := ih (ts.set v.toNat tl) (met.set q.toNat true) (wait ++ [q]) (by rw [List.length_append, List.length_singleton]; omega) ⟨by rw [List.length_set]; exact hlen, by rw [List.length_set, List.length_set]; exact htl, by rw [List.length_append, List.length_singleton, List.length_set]; omega, hkeep s hsn I.src, fun u hu => by
            rcases List.mem_append.1 hu with hu | hu
            · obtain ⟨a, b, c⟩ := I.wtd u hu
              exact ⟨a, b, hkeep u (by omega) c⟩
            · obtain rfl := List.mem_singleton.1 hu
              exact ⟨t1, tn, by rw [hset u (by omega), if_pos rfl]⟩, fun u u1 un r hr => by
            rw [hgd] at hr
            by_cases c : v.toNat = u.toNat
            · rw [if_pos c] at hr
              have e : v = u := by omega
              rw [← e]
              exact I.trk v v1 vn r (hsub r hr)
            · rw [if_neg c] at hr
              exact I.trk u u1 un r hr, fun r hr hroom hnot => by
            obtain ⟨f1, fn, g1, gn⟩ := ends_range hg hr
            rw [hgd] at hnot
            by_cases c : v.toNat = (fromOf l r).toNat
            · rw [if_pos c] at hnot
              by_cases c2 : r ∈ ts.getD (fromOf l r).toNat []
              · rw [← c] at c2
                rcases hold r c2 hnot with rfl | h
                · rw [hto, hset q (by omega), if_pos rfl]
                · exact hkeep _ (by omega) (h hroom)
              · exact hkeep _ (by omega) (I.done r hr hroom c2)
            · rw [if_neg c] at hnot
              exact hkeep _ (by omega) (I.done r hr hroom hnot), fun r hr hroom h hnw => by
            obtain ⟨f1, fn, g1, gn⟩ := ends_range hg hr
            rw [hset _ (by omega)] at h
            have hnq : q ≠ fromOf l r := fun e => hnw (List.mem_append.2 (.inr (List.mem_singleton.2 e.symm)))
            rw [if_neg hnq] at h
            exact hkeep _ (by omega) (I.all r hr hroom h (fun hc => hnw (List.mem_append.2 (.inl hc)))), fun P hP hstep u u0 un h => by
            rw [hset u u0] at h
            by_cases c : q = u
            · rw [← c, ← hto]
              refine hstep r0 hi0 hroom0 ?_
              rw [hfrom]
              exact I.min P hP hstep v (by omega) vn hmv
            · rw [if_neg c] at h
              exact I.min P hP hstep u u0 un h⟩
        refine ⟨m, Ev.step (fun k => ?_) hm, M⟩
        simp only [rcWalk]
        rw [if_neg hz, if_pos hwl, hv, hf]
end
theorem reach_ev {n s t least : Int} {l : List S49} {f : List Int} (R : Right n s t l) (F : IsFlow n s t l f) (hl : 1 ≤ least) :
    ∃ met, Ev (fun k => residual_Reach.f k n s t l f least) (met, 0) ∧ IsMet n s l (roomOf l f) least met := by
  have h1 := R.n2
  have h2 := R.n500
  have h3 := R.s1
  have h4 := R.sn
  have h5 := R.len
  have hlen : (roomOf l f).length = 2 * l.length := roomOf_len F.1.len
  have hrl : (List.replicate (n + 1).toNat false).length = (n + 1).toNat := List.length_replicate
  have hrep : ∀ v, 0 ≤ v → v ≤ n → rdOf false (List.replicate (n + 1).toNat false) v = false := fun v v0 vn => by
    have : v.toNat < (n + 1).toNat := by omega
    simp [rdOf, this]
  have hrs : ∀ v, 0 ≤ v → rdOf false ((List.replicate (n + 1).toNat false).set s.toNat true) v = if s = v then true else rdOf false (List.replicate (n + 1).toNat false) v := fun v v0 => rdB_set (by omega) (by omega) v0
  have hcn : cntB ((List.replicate (n + 1).toNat false).set s.toNat true) + 1 = (n + 1).toNat := by
    have := cntB_set (m := List.replicate (n + 1).toNat false) (i := s.toNat) (by omega) (by simp)
    rw [cntB_replicate] at this
    exact this
  have hts : ∀ v, 0 ≤ v → v ≤ n → ∀ r, r ∈ (Go.Proofs.YtbppeffcikphcaaW.Mine.trAll (rcFrom l) (n + 1).toNat (roomOf l f).length).getD v.toNat [] ↔ InR l r ∧ fromOf l r = v := fun v v0 vn r => by
    obtain ⟨x, hx, hr⟩ := tracks_at2 (fr := rcFrom l) (m := (n + 1).toNat) (roomOf l f).length v.toNat (by omega)
    rw [List.getD_eq_getElem?_getD, hx]
    show r ∈ x ↔ _
    rw [← hr r]
    have e : rcFrom l r = fromOf l r := rfl
    rw [e, hlen]
    constructor
    · rintro ⟨a, b, c⟩
      have hi : InR l r := ⟨a, by omega⟩
      have := ends_range R.arcs hi
      exact ⟨hi, by omega⟩
    · rintro ⟨a, b⟩
      have := a.1
      have := a.2
      exact ⟨a.1, by omega, by omega⟩
  have I : RInv n s l (roomOf l f) least (Go.Proofs.YtbppeffcikphcaaW.Mine.trAll (rcFrom l) (n + 1).toNat (roomOf l f).length) ((List.replicate (n + 1).toNat false).set s.toNat true) [s] := by
    refine ⟨by rw [List.length_set, hrl]; omega, by rw [List.length_set, hrl, Go.Proofs.YtbppeffcikphcaaW.Mine.trAll_length], by rw [List.length_set, hrl, List.length_singleton]; omega, by rw [hrs s (by omega), if_pos rfl], fun v hv => ?_, fun v v1 vn r hr => (hts v (by omega) vn r).1 hr, fun r hr hroom hn => ?_, fun r hr hroom h hn => ?_, fun P hP _ v v0 vn h => ?_⟩
    · obtain rfl := List.mem_singleton.1 hv
      exact ⟨h3, h4, by rw [hrs _ (by omega), if_pos rfl]⟩
    · have := ends_range R.arcs hr
      exact absurd ((hts (fromOf l r) (by omega) (by omega) r).2 ⟨hr, rfl⟩) hn
    · have := ends_range R.arcs hr
      rw [hrs _ (by omega)] at h
      by_cases c : s = fromOf l r
      · exact absurd (List.mem_singleton.2 c.symm) hn
      · rw [if_neg c, hrep _ (by omega) (by omega)] at h
        cases h
    · rw [hrs v v0] at h
      by_cases c : s = v
      · rw [← c]; exact hP
      · rw [if_neg c, hrep v v0 vn] at h
        cases h
  obtain ⟨met, hm, M⟩ := rcwalk_ev R.arcs h2 _ _ _ _ (Nat.le_refl _) I
  refine ⟨met, ?_, M⟩
  have hfit : rcFit n s l (roomOf l f) = true := by
    simp only [rcFit, Bool.and_eq_true, decide_eq_true_eq, List.all_eq_true]
    refine ⟨⟨by omega, by omega, by omega, h4, h5, hlen⟩, fun a ha => ?_⟩
    obtain ⟨g0, g1, g2, g3, _⟩ := R.arcs a ha
    omega
  unfold residual_Reach.f
  refine Ev.bind (room_ev R F) ?_
  simp only [if_true, if_neg (show ¬ least < 1 by omega), hfit]
  exact Ev.bind hm (Ev.now _)
/-- The second loop of Push. -/
theorem push_set {l : List S49} {n s t m : Int} {w : List Int} (hw : ∀ r ∈ w, InR l r) (hl : l.length ≤ 2000) (hwl : w.length ≤ 1000000) (hm : 1 ≤ m) (hm2 : m ≤ 2000000000000) (hcap : ∀ a ∈ l, a.f2 < 1000000000000) (d : Nat) :
    ∀ (j : Nat) (f : List Int), j + d = w.length → Within l f → ((w.drop j).map (· / 2)).Nodup →
      (Fits l f m (w.drop j) → Ev (fun k => residual_Push.l1 k f m w (w.length : Int) (j : Int) n s t l) (rpush f m (w.drop j), 0)) ∧
      (¬ Fits l f m (w.drop j) → Ev (fun k => residual_Push.l1 k f m w (w.length : Int) (j : Int) n s t l) ([], 9)) := by
  induction d with
  | zero =>
    intro j f hj W hn
    rw [List.drop_of_length_le (by omega)]
    refine ⟨fun _ => Ev.step (f := fun _ => some (f, 0)) (fun k => ?_) (Ev.now _), fun h => absurd (fun r hr => by cases hr) h⟩
    simp only [residual_Push.l1]
    rw [if_neg (by omega)]
  | succ d ih =>
    intro j f hj W hn
    have hjw : j < w.length := by omega
    have hlen := W.len
    rw [List.drop_eq_getElem_cons hjw] at hn ⊢
    obtain ⟨r, hr⟩ : ∃ r, w[j] = r := ⟨_, rfl⟩
    rw [hr] at hn ⊢
    obtain ⟨h0, h1⟩ := hw r (by rw [← hr]; exact List.getElem_mem hjw)
    have hrd : rd w (j : Int) = r := by rw [rd_get hjw, hr]
    simp only [List.map_cons, List.nodup_cons] at hn
    have hc := hcap _ (rdT_mem (l := l) (i := r / 2) (by omega) (by omega))
    have hb := within_rd W (i := r / 2) (by omega) (by omega)
    have hd : wrap64 (Int.tdiv r 2) = r / 2 := by rw [tdiv2 h0, wrap_id (by omega) (by omega)]
    obtain ⟨x, hx⟩ : ∃ x, rd f (r / 2) = x := ⟨_, rfl⟩
    obtain ⟨c, hcc⟩ : ∃ c, (rd_T49 l (r / 2)).f2 = c := ⟨_, rfl⟩
    rw [hx, hcc] at hb
    rw [hcc] at hc
    have hrm : (r % 2 = 1 ∧ rm r m = -m) ∨ (¬ r % 2 = 1 ∧ rm r m = m) := by unfold rm; by_cases e : r % 2 = 1 <;> simp [e]
    have key : ∀ f', f' = f.set (r / 2).toNat (x + rm r m) → (0 ≤ x + rm r m ∧ x + rm r m ≤ c) → (Fits l f' m (w.drop (j + 1)) ↔ Fits l f m (w.drop (j + 1))) := fun f' e _ => by
      have z : ∀ q ∈ w.drop (j + 1), rd f' (q / 2) = rd f (q / 2) := fun q hq => by
        have hq0 := hw q (List.mem_of_mem_drop hq)
        have hq0 := hq0.1
        rw [e, rd_set (by omega) (by omega) (by omega), if_neg (fun e => hn.1 (by rw [e]; exact List.mem_map_of_mem hq))]
      exact ⟨fun h q hq => by rw [← z q hq]; exact h q hq, fun h q hq => by rw [z q hq]; exact h q hq⟩
    have go : (0 ≤ x + rm r m ∧ x + rm r m ≤ c) → ∀ res, Ev (fun k => residual_Push.l1 k (f.set (r / 2).toNat (x + rm r m)) m w (w.length : Int) ((j + 1 : Nat) : Int) n s t l) res → Ev (fun k => residual_Push.l1 k f m w (w.length : Int) (j : Int) n s t l) res := fun hf res hres => by
      refine Ev.step (fun k => ?_) hres
      simp only [residual_Push.l1, hrd, hd, bit_odd h0 (show r ≤ 1000000 by omega), hx, hcc]
      rw [if_pos (by omega), if_pos (by omega), if_pos (by omega)]
      rcases hrm with ⟨e, e'⟩ | ⟨e, e'⟩
      · rw [e'] at hf ⊢
        rw [if_pos e, if_pos (by omega), if_pos (by omega), if_pos (by omega), wrap_id (x := -m) (by omega) (by omega), wrap_id (x := c - -m) (by omega) (by omega), if_neg (by omega), wrap_id (x := - -m) (by omega) (by omega), if_neg (by omega), wrap_id (x := x + -m) (by omega) (by omega), wrap_succ (by omega)]
      · rw [e'] at hf ⊢
        rw [if_neg e, if_pos (by omega), if_pos (by omega), if_pos (by omega), wrap_id (x := c - m) (by omega) (by omega), if_neg (by omega), wrap_id (x := -m) (by omega) (by omega), if_neg (by omega), wrap_id (x := x + m) (by omega) (by omega), wrap_succ (by omega)]
    by_cases hf : 0 ≤ x + rm r m ∧ x + rm r m ≤ c
    · have W' : Within l (f.set (r / 2).toNat (x + rm r m)) := W.set _ _ hf.1 (fun h' => by rw [rdT_nat (by omega) (by omega) h', hcc]; exact hf.2)
      obtain ⟨a, b⟩ := ih (j + 1) _ (by omega) W' hn.2
      refine ⟨fun h => ?_, fun h => ?_⟩
      · have := a ((key _ rfl hf).2 (fun q hq => h q (List.mem_cons_of_mem _ hq)))
        rw [rpush, hx]
        exact go hf _ this
      · refine go hf _ (b (fun h' => h (fun q hq => ?_)))
        rcases List.mem_cons.1 hq with rfl | hq
        · rw [hx, hcc]; exact hf
        · exact (key _ rfl hf).1 h' q hq
    · refine ⟨fun h => absurd (by have := h r List.mem_cons_self; rwa [hx, hcc] at this) hf, fun _ => Ev.step (f := fun _ => some ([], 9)) (fun k => ?_) (Ev.now _)⟩
      simp only [residual_Push.l1, hrd, hd, bit_odd h0 (show r ≤ 1000000 by omega), hx, hcc]
      rw [if_pos (by omega), if_pos (by omega), if_pos (by omega)]
      rcases hrm with ⟨e, e'⟩ | ⟨e, e'⟩
      · rw [e'] at hf
        rw [if_pos e, if_pos (by omega), if_pos (by omega), if_pos (by omega), wrap_id (x := -m) (by omega) (by omega), wrap_id (x := c - -m) (by omega) (by omega), wrap_id (x := - -m) (by omega) (by omega)]
        by_cases e2 : x > c - -m
        · rw [if_pos e2]
        · rw [if_neg e2, if_pos (by omega)]
      · rw [e'] at hf
        rw [if_neg e, if_pos (by omega), if_pos (by omega), if_pos (by omega), wrap_id (x := c - m) (by omega) (by omega), wrap_id (x := -m) (by omega) (by omega)]
        by_cases e2 : x > c - m
        · rw [if_pos e2]
        · rw [if_neg e2, if_pos (by omega)]
/-- The first loop of Push. -/
theorem push_walk {l : List S49} {n s t m : Int} {f w : List Int} (hg : ∀ a ∈ l, GoodArc n a) (hw : ∀ r ∈ w, InR l r) (hl : l.length ≤ 2000) (hwl : w.length ≤ 1000000) (hst : s ≠ t) {v : Int} (res : List Int × Int)
    (H : Ev (fun k => residual_Push.j1 k f w m (if w.length = 0 then true else v != t) n s t l) res) (d : Nat) :
    ∀ (j : Nat) (u : Int), j + d = w.length → RPath l u (w.drop j) v → Ev (fun k => residual_Push.l0 k f w m u w (w.length : Int) (j : Int) n s t l) res := by
  induction d with
  | zero =>
    intro j u hj hp
    rw [List.drop_of_length_le (by omega)] at hp
    have e : u = v := hp
    subst e
    refine Ev.step (fun k => ?_) H
    simp only [residual_Push.l0]
    rw [if_neg (by omega)]
    by_cases c : w.length = 0
    · rw [if_pos (by omega), if_pos c]
    · rw [if_neg (by omega), if_neg c]
  | succ d ih =>
    intro j u hj hp
    have hjw : j < w.length := by omega
    rw [List.drop_eq_getElem_cons hjw] at hp
    obtain ⟨e0, hp⟩ := hp
    have hr := hw _ (List.getElem_mem hjw)
    obtain ⟨g0, g1, g2, g3⟩ := ends_range hg hr
    refine Ev.step (f := ?g) (fun k => ?h) ?e
    case h =>
      simp only [residual_Push.l0]
      rw [if_pos (by omega), if_pos (by omega), if_pos (by omega), rd_get hjw]
    case e =>
      refine Ev.bind (ends_ev hr hl) ?_
      simp only [if_pos e0, if_neg (show ¬ toOf l w[j] = 0 by omega)]
      refine Ev.congr (fun k => ?_) (ih (j + 1) (toOf l w[j]) (by omega) hp)
      rw [wrap_succ (by omega)]
theorem push_both {n s t m : Int} {l : List S49} {f w : List Int} (R : Right n s t l) (F : IsFlow n s t l f) (hw : ∀ r ∈ w, InR l r) (hwl : w.length ≤ 1000000) (hp : RPath l s w t) (hn : (w.map (· / 2)).Nodup) (hm : 1 ≤ m) (hm2 : m ≤ 2000000000000) (hcap : ∀ a ∈ l, a.f2 < 1000000000000) :
    (Fits l f m w → Ev (fun k => residual_Push.f k n s t l f w m) (rpush f m w, 0)) ∧ (¬ Fits l f m w → Ev (fun k => residual_Push.f k n s t l f w m) ([], 9)) := by
  have hne : w.length ≠ 0 := fun e => by
    rw [List.length_eq_zero_iff] at e
    rw [e] at hp
    exact R.ne hp
  have hlen := F.within.len
  have hl := R.len
  have go : ∀ res, Ev (fun k => residual_Push.l1 k f m w (w.length : Int) 0 n s t l) res → Ev (fun k => residual_Push.f k n s t l f w m) res := fun res hres => by
    refine Ev.bind (check_flow R F) ?_
    simp only [if_true]
    refine push_walk R.arcs hw R.len hwl R.ne (v := t) res ?_ w.length 0 s (by omega) (by simpa using hp)
    refine Ev.step (fun k => ?_) hres
    simp only [residual_Push.j1, clone64.f]
    rw [if_neg hne, if_neg (by simp), if_neg (by omega), if_pos (by omega)]
    rfl
  obtain ⟨a, b⟩ := push_set (n := n) (s := s) (t := t) hw R.len hwl hm hm2 hcap w.length 0 f (by omega) F.within (by simpa using hn)
  exact ⟨fun h => go _ (by simpa using a (by simpa using h)), fun h => go _ (by simpa using b (by simpa using h))⟩
theorem shown_ev : Ev (fun k => racewaylaw6_shown.f k) true := by
  have R : Right 2 1 2 [(⟨1, 2, 5⟩ : S49)] := ⟨by omega, by omega, by omega, by omega, by omega, by omega, by omega, by simp, fun a ha => by
    obtain rfl := List.mem_singleton.1 ha
    exact ⟨by decide, by decide, by decide, by decide, by decide⟩, by decide⟩
  have F : IsFlow 2 1 2 [(⟨1, 2, 5⟩ : S49)] [3] := ⟨⟨by decide, by decide, trivial⟩, fun v h1 h2 h3 h4 => by omega⟩
  unfold racewaylaw6_shown.f
  have hroom : Ev (fun k => residual_Room.f k 2 1 2 [(⟨1, 2, 5⟩ : S49)] [3]) ([2, 3], 0) := by
    unfold residual_Room.f
    refine Ev.bind (check_flow R F) ?_
    exact Ev.congr (fun k => by simp [roomOf, wrap64]) (Ev.now ([2, 3], 0))
  refine Ev.bind hroom ?_
  exact Ev.congr (fun k => by simp [rd]) (Ev.now true)
end Go.Proofs.Ytbppeffcikphcaa.Pure
