/- Plain lists and numbers, for the law ResidualTells: no program and no memory. -/
import Derived.Test.YtbppeffcikphcaaPResidualTellsx0
import Derived.Test.YtbppeffcikphcaaPResidualTellsx1
import Derived.Test.YtbppeffcikphcaaPResidualTellsx3
import Derived.Test.YtbppeffcikphcaaPResidualTellsx4
import Derived.Test.YtbppeffcikphcaaPResidualTellsx5
import Derived.Test.YtbppeffcikphcaaPResidualTellsx6
import Derived.Test.YtbppeffcikphcaaPResidualTellsx7
import Derived.Test.YtbppeffcikphcaaPResidualTellsx8
import Derived.Test.YtbppeffcikphcaaPResidualTellsx9
import Derived.Test.YtbppeffcikphcaaPResidualTellsx10
import Derived.Test.YtbppeffcikphcaaPResidualTellsx11
import Derived.Test.YtbppeffcikphcaaPResidualTellsx12
import Derived.Test.YtbppeffcikphcaaPResidualTellsx13
import Derived.Test.YtbppeffcikphcaaPResidualTellsx14
import Derived.Test.YtbppeffcikphcaaPResidualTellsx15
import Derived.Test.YtbppeffcikphcaaPResidualTellsx16
import Derived.Test.YtbppeffcikphcaaPResidualTellsx17
import Derived.Test.YtbppeffcikphcaaPResidualTellsx18
import Derived.Test.YtbppeffcikphcaaPResidualTellsx19
import Derived.Test.YtbppeffcikphcaaPResidualTellsx22
import Derived.Test.YtbppeffcikphcaaPResidualTellsx24
import Derived.Lib.RabinKarpLaws
set_option linter.unusedVariables false
namespace Go.Proofs.Ytbppeffcikphcaa.Pure
open Go.RowKit Go.Proofs.Ytbppeffcikphcaa.PResidualTells Go.Proofs.YtbppeffcikphcaaW.PrintWords Go.Proofs.YtbppeffcikphcaaW.PrintLast
theorem wrap_id {x : Int} (h0 : -9223372036854775808 ≤ x) (h1 : x ≤ 9223372036854775807) : wrap64 x = x := by unfold wrap64; omega
/-- An arc between nodes 1 to n, of no capacity below 0. -/
def GoodArc (n : Int) (a : S49) : Prop := 1 ≤ a.f0 ∧ a.f0 ≤ n ∧ 1 ≤ a.f1 ∧ a.f1 ≤ n ∧ 0 ≤ a.f2
def sumCap : List S49 → Int
  | [] => 0
  | a :: t => a.f2 + sumCap t
theorem sumCap_nonneg {n : Int} {l : List S49} (h : ∀ a ∈ l, GoodArc n a) : 0 ≤ sumCap l := by
  induction l with
  | nil => exact Int.le_refl 0
  | cons a t ih =>
    have h1 := ih (fun x hx => h x (List.mem_cons_of_mem _ hx))
    have h2 := (h a List.mem_cons_self).2.2.2.2
    simp only [sumCap]; omega
theorem chk_app {n : Int} : ∀ {l m : List S49} {s : Int}, (∀ a ∈ l, GoodArc n a) → 0 ≤ s → s + sumCap l ≤ 4611686018427387903 → chkArcs n (l ++ m) s = chkArcs n m (s + sumCap l)
  | [], m, s, _, _, _ => by simp [sumCap]
  | a :: t, m, s, h, hs, hM => by
    obtain ⟨g0, g1, g2, g3, g4⟩ := h a List.mem_cons_self
    have ht : ∀ x ∈ t, GoodArc n x := fun x hx => h x (List.mem_cons_of_mem _ hx)
    have hn := sumCap_nonneg ht
    simp only [sumCap] at hM
    simp only [List.cons_append, chkArcs]
    rw [if_pos ⟨by omega, by omega⟩, if_pos ⟨g0, g1, g2, g3⟩, if_neg (by omega), if_neg (by omega), chk_app ht (by omega) (by omega)]
    simp only [sumCap]
    rw [Int.add_assoc]
theorem chk_ok {n : Int} {l : List S49} {s : Int} (h : ∀ a ∈ l, GoodArc n a) (hs : 0 ≤ s) (hM : s + sumCap l ≤ 4611686018427387903) : chkArcs n l s = some 0 := by
  have := chk_app (m := []) h hs hM
  rw [List.append_nil] at this
  rw [this, chkArcs]
/-- A right network. -/
structure Right (n s t : Int) (l : List S49) : Prop where
  n2 : 2 ≤ n
  n500 : n ≤ 500
  s1 : 1 ≤ s
  sn : s ≤ n
  t1 : 1 ≤ t
  tn : t ≤ n
  ne : s ≠ t
  len : l.length ≤ 2000
  arcs : ∀ a ∈ l, GoodArc n a
  sum : sumCap l ≤ 4611686018427387903
theorem Right.check {n s t : Int} {l : List S49} (h : Right n s t l) : net_Check.f n s t l = some 0 := by
  unfold net_Check.f
  have h1 := h.n2
  have h2 := h.n500
  have h3 := h.s1
  have h4 := h.sn
  have h5 := h.t1
  have h6 := h.tn
  have h8 := h.len
  rw [if_neg (by omega), if_neg (fun hc => hc ⟨h3, h4, h5, h6⟩), if_neg h.ne, if_neg (by omega)]
  exact chk_ok h.arcs (Int.le_refl 0) (by have := h.sum; omega)
theorem wf_bounds {c : Int} (h : (Lit.int .i64 c).wf = true) : -9223372036854775808 ≤ c ∧ c ≤ 9223372036854775807 := by
  simp [Lit.wf] at h
  obtain ⟨h1, h2⟩ := h
  have e : IntKind.i64.min = -9223372036854775808 := by decide
  rw [e] at h1
  exact ⟨h1, h2⟩
/-- Amounts within the capacities. -/
def Within : List S49 → List Int → Prop
  | [], [] => True
  | a :: l, x :: f => 0 ≤ x ∧ x ≤ a.f2 ∧ Within l f
  | _, _ => False
/-- What comes in to a node, without what goes out. -/
def exc : List S49 → List Int → Int → Int
  | a :: l, x :: f, v => (if a.f1 = v then x else 0) - (if a.f0 = v then x else 0) + exc l f v
  | _, _, _ => 0
theorem exc_nil (f : List Int) (v : Int) : exc [] f v = 0 := by cases f <;> rfl
def sumL : List Int → Int
  | [] => 0
  | x :: f => x + sumL f
theorem Within.len : ∀ {l : List S49} {f : List Int}, Within l f → f.length = l.length
  | [], [], _ => rfl
  | _ :: _, _ :: _, h => by simp [Within.len h.2.2]
  | [], _ :: _, h => h.elim
  | _ :: _, [], h => h.elim
theorem Within.get : ∀ {l : List S49} {f : List Int}, Within l f → ∀ i (h : i < l.length) (h' : i < f.length), 0 ≤ f[i] ∧ f[i] ≤ (l[i]).f2
  | _ :: _, _ :: _, h, 0, _, _ => ⟨h.1, h.2.1⟩
  | _ :: l, _ :: f, h, i + 1, h1, h2 => by
    simp only [List.getElem_cons_succ]
    exact Within.get h.2.2 i (by simpa using h1) (by simpa using h2)
  | [], [], _, i, h1, _ => absurd h1 (by simp)
theorem Within.of : ∀ {l : List S49} {f : List Int}, f.length = l.length → (∀ i (h : i < l.length) (h' : i < f.length), 0 ≤ f[i] ∧ f[i] ≤ (l[i]).f2) → Within l f
  | [], [], _, _ => trivial
  | a :: l, x :: f, hl, h => by
    have h0 := h 0 (by simp) (by simp)
    exact ⟨h0.1, h0.2, Within.of (by simpa using hl) (fun i h1 h2 => by have := h (i + 1) (by simpa using h1) (by simpa using h2); simpa using this)⟩
  | [], _ :: _, hl, _ => absurd hl (by simp)
  | _ :: _, [], hl, _ => absurd hl (by simp)
theorem rd_get {f : List Int} {i : Nat} (h : i < f.length) : rd f (i : Int) = f[i] := by simp [rd, h]
theorem rdT_get {l : List S49} {i : Nat} (h : i < l.length) : rd_T49 l (i : Int) = l[i] := by simp [rd_T49, h]
theorem Within.sum : ∀ {l : List S49} {f : List Int}, Within l f → 0 ≤ sumL f ∧ sumL f ≤ sumCap l
  | [], [], _ => ⟨Int.le_refl _, Int.le_refl _⟩
  | a :: l, x :: f, h => by
    have := Within.sum h.2.2
    have h1 := h.1
    have h2 := h.2.1
    simp only [sumL, sumCap]; omega
  | [], _ :: _, h => h.elim
  | _ :: _, [], h => h.elim
theorem Within.nonneg : ∀ {l : List S49} {f : List Int}, Within l f → ∀ x ∈ f, 0 ≤ x
  | [], [], _, x, hx => by cases hx
  | a :: l, y :: f, h, x, hx => by
    rcases List.mem_cons.1 hx with rfl | hx
    · exact h.1
    · exact Within.nonneg h.2.2 x hx
  | [], _ :: _, h, _, _ => h.elim
  | _ :: _, [], h, _, _ => h.elim
theorem Within.drop : ∀ {l : List S49} {f : List Int}, Within l f → ∀ i, Within (l.drop i) (f.drop i)
  | l, f, h, 0 => by simpa using h
  | [], [], _, _ + 1 => trivial
  | _ :: _, _ :: _, h, i + 1 => by simpa using Within.drop h.2.2 i
  | [], _ :: _, h, _ + 1 => h.elim
  | _ :: _, [], h, _ + 1 => h.elim
theorem Within.zeros : ∀ {l : List S49}, (∀ a ∈ l, 0 ≤ a.f2) → Within l (List.replicate l.length 0)
  | [], _ => trivial
  | a :: l, h => ⟨Int.le_refl _, h a List.mem_cons_self, Within.zeros (fun x hx => h x (List.mem_cons_of_mem _ hx))⟩
theorem exc_zeros : ∀ (l : List S49) (n : Nat) (v : Int), exc l (List.replicate n 0) v = 0
  | [], _, _ => by simp [exc]
  | _ :: _, 0, _ => by simp [exc]
  | a :: l, n + 1, v => by
    simp only [List.replicate_succ, exc, exc_zeros l n v]
    split <;> split <;> rfl
theorem Within.set : ∀ {l : List S49} {f : List Int}, Within l f → ∀ (i : Nat) (x : Int), 0 ≤ x → (∀ h : i < l.length, x ≤ (l[i]).f2) → Within l (f.set i x)
  | [], [], _, _, _, _, _ => by simp [Within]
  | a :: l, y :: f, h, 0, x, h0, hx => ⟨h0, hx (by simp), h.2.2⟩
  | a :: l, y :: f, h, i + 1, x, h0, hx => ⟨h.1, h.2.1, Within.set h.2.2 i x h0 (fun h' => by have := hx (by simpa using h'); simpa using this)⟩
  | [], _ :: _, h, _, _, _, _ => h.elim
  | _ :: _, [], h, _, _, _, _ => h.elim
/-- A flow. -/
structure IsFlow (n s t : Int) (l : List S49) (f : List Int) : Prop where
  within : Within l f
  cons : ∀ v, 1 ≤ v → v ≤ n → v ≠ s → v ≠ t → exc l f v = 0
theorem IsFlow.zeros {n s t : Int} {l : List S49} (h : ∀ a ∈ l, GoodArc n a) : IsFlow n s t l (List.replicate l.length 0) :=
  ⟨Within.zeros (fun a ha => (h a ha).2.2.2.2), fun v _ _ _ _ => exc_zeros _ _ _⟩
theorem rd_set {xs : List Int} {j u x : Int} (h0 : 0 ≤ j) (h1 : j < (xs.length : Int)) (hu : 0 ≤ u) : rd (xs.set j.toNat x) u = if j = u then x else rd xs u := by
  unfold rd
  rw [List.getD_eq_getElem?_getD, List.getD_eq_getElem?_getD, List.getElem?_set]
  by_cases e : j = u
  · subst e
    rw [if_pos rfl, if_pos (by omega), if_pos rfl]; rfl
  · rw [if_neg (by omega), if_neg e]
theorem sumL_drop {f : List Int} {i : Nat} (h : i < f.length) : sumL (f.drop i) = f[i] + sumL (f.drop (i + 1)) := by
  rw [List.drop_eq_getElem_cons h]; rfl
theorem sumL_nonneg : ∀ {g : List Int}, (∀ x ∈ g, 0 ≤ x) → 0 ≤ sumL g
  | [], _ => Int.le_refl _
  | y :: g, h => by
    have h1 := sumL_nonneg (g := g) (fun x hx => h x (List.mem_cons_of_mem _ hx))
    have h2 := h y List.mem_cons_self
    simp only [sumL]; omega
theorem exc_loop {n : Int} {l : List S49} {f : List Int} (hg : ∀ a ∈ l, GoodArc n a) (hf : ∀ x ∈ f, 0 ≤ x) (hlen : f.length = l.length) (hS : sumL f ≤ 4611686018427387903) (hl : l.length ≤ 2000) (d : Nat) :
    ∀ (i : Nat) (out : List Int), i + d = l.length → (out.length : Int) = n + 1 → (∀ v, 0 ≤ v → v ≤ n → -(sumL f - sumL (f.drop i)) ≤ rd out v ∧ rd out v ≤ sumL f - sumL (f.drop i)) →
      ∃ out', Ev (fun k => flow_excesses.l0 k f out l (l.length : Int) (i : Int)) out' ∧ (out'.length : Int) = n + 1 ∧ ∀ v, 0 ≤ v → v ≤ n → rd out' v = rd out v + exc (l.drop i) (f.drop i) v := by
  induction d with
  | zero =>
    intro i out hi ho _
    refine ⟨out, Ev.step (f := fun _ => some out) (fun k => ?_) (Ev.now _), ho, fun v _ _ => ?_⟩
    · simp only [flow_excesses.l0]
      rw [if_neg (by omega)]
    · rw [List.drop_of_length_le (show l.length ≤ i by omega), exc_nil]; omega
  | succ d ih =>
    intro i out hi ho hb
    have hil : i < l.length := by omega
    have hif : i < f.length := by omega
    obtain ⟨g0, g1, g2, g3, _⟩ := hg l[i] (List.getElem_mem hil)
    have hx0 := hf f[i] (List.getElem_mem hif)
    have hsd := sumL_drop hif
    have hsn := sumL_nonneg (g := f.drop (i + 1)) (fun x hx => hf x (List.mem_of_mem_drop hx))
    have b0 := hb (l[i]).f0 (by omega) g1
    have e1 : wrap64 (rd out (l[i]).f0 - f[i]) = rd out (l[i]).f0 - f[i] := wrap_id (by omega) (by omega)
    have hr1 : ∀ u, 0 ≤ u → rd (out.set ((l[i]).f0).toNat (rd out (l[i]).f0 - f[i])) u = if (l[i]).f0 = u then rd out (l[i]).f0 - f[i] else rd out u := fun u hu => rd_set (by omega) (by omega) hu
    have b1 := hb (l[i]).f1 (by omega) g3
    have e2 : wrap64 (rd (out.set ((l[i]).f0).toNat (rd out (l[i]).f0 - f[i])) (l[i]).f1 + f[i]) = rd (out.set ((l[i]).f0).toNat (rd out (l[i]).f0 - f[i])) (l[i]).f1 + f[i] := by
      have := hr1 (l[i]).f1 (by omega)
      rw [this]
      split <;> exact wrap_id (by omega) (by omega)
    have hr2 : ∀ u, 0 ≤ u → rd ((out.set ((l[i]).f0).toNat (rd out (l[i]).f0 - f[i])).set ((l[i]).f1).toNat (rd (out.set ((l[i]).f0).toNat (rd out (l[i]).f0 - f[i])) (l[i]).f1 + f[i])) u = rd out u + ((if (l[i]).f1 = u then f[i] else 0) - (if (l[i]).f0 = u then f[i] else 0)) := by
      intro u hu
      rw [rd_set (by omega) (by rw [List.length_set]; omega) hu, hr1 (l[i]).f1 (by omega), hr1 u hu]
      by_cases c1 : (l[i]).f1 = u
      · by_cases c0 : (l[i]).f0 = u
        · rw [if_pos c1, if_pos (by omega), if_pos c1, if_pos c0, c0]; omega
        · rw [if_pos c1, if_neg (by omega), if_pos c1, if_neg c0, c1]; omega
      · by_cases c0 : (l[i]).f0 = u
        · rw [if_neg c1, if_pos c0, if_neg c1, if_pos c0, c0]; omega
        · rw [if_neg c1, if_neg c0, if_neg c1, if_neg c0]; omega
    obtain ⟨Y, hYd⟩ : ∃ Y, ((out.set ((l[i]).f0).toNat (rd out (l[i]).f0 - f[i])).set ((l[i]).f1).toNat (rd (out.set ((l[i]).f0).toNat (rd out (l[i]).f0 - f[i])) (l[i]).f1 + f[i])) = Y := ⟨_, rfl⟩
    rw [hYd] at hr2
    obtain ⟨out', h1, h2, h3⟩ := ih (i + 1) Y (by omega) (by rw [← hYd, List.length_set, List.length_set]; exact ho) (fun v hv0 hv1 => by
      have hbv := hb v hv0 hv1
      have e := hr2 v hv0
      rw [e]
      by_cases c1 : (l[i]).f1 = v
      · by_cases c0 : (l[i]).f0 = v
        · rw [if_pos c1, if_pos c0]; omega
        · rw [if_pos c1, if_neg c0]; omega
      · by_cases c0 : (l[i]).f0 = v
        · rw [if_neg c1, if_pos c0]; omega
        · rw [if_neg c1, if_neg c0]; omega)
    refine ⟨out', Ev.step (fun k => ?_) h1, h2, fun v hv0 hv1 => ?_⟩
    · simp only [flow_excesses.l0]
      rw [if_pos (by omega), if_pos (by omega), if_pos (by omega), rdT_get hil, rd_get hif, if_pos (by omega), if_pos (by omega), if_pos (by omega), e1]
      simp only [Option.bind_some]
      rw [if_pos (by omega), if_pos (by omega), e2, wrap_id (by omega) (by omega), hYd]
      rfl
    · rw [h3 v hv0 hv1, hr2 v hv0, List.drop_eq_getElem_cons hil, List.drop_eq_getElem_cons hif]
      simp only [exc]; omega
theorem rd_replicate (m : Nat) (v : Int) : rd (List.replicate m 0) v = 0 := by
  unfold rd
  rw [List.getD_eq_getElem?_getD, List.getElem?_replicate]
  split <;> rfl
/-- All excesses. -/
theorem excesses_ev {n s t : Int} {l : List S49} {f : List Int} (R : Right n s t l) (W : Within l f) :
    ∃ out, Ev (fun k => flow_excesses.f k n s t l f) out ∧ (out.length : Int) = n + 1 ∧ ∀ v, 0 ≤ v → v ≤ n → rd out v = exc l f v := by
  have h1 := R.n2
  have h2 := R.n500
  have hs := W.sum
  have hR := R.sum
  obtain ⟨out, ho, hl, hv⟩ := exc_loop R.arcs W.nonneg W.len (by omega) R.len l.length 0 (List.replicate (n + 1).toNat 0) (by omega) (by simp; omega) (fun v _ _ => by rw [rd_replicate, List.drop_zero]; omega)
  refine ⟨out, Ev.congr (fun k => ?_) ho, hl, fun v h0 h3 => ?_⟩
  · unfold flow_excesses.f
    rw [wrap_id (x := n + 1) (by omega) (by omega), if_pos (by omega), if_pos (by omega)]
    rfl
  · rw [hv v h0 h3, rd_replicate, List.drop_zero, List.drop_zero]; omega
theorem within_loop {n s t : Int} {l : List S49} {f : List Int} (W : Within l f) (hl : l.length ≤ 2000) (d : Nat) : ∀ i : Nat, i + d = f.length → Ev (fun k => flow_within.l0 k f (f.length : Int) (i : Int) n s t l) 0 := by
  have hlen := W.len
  induction d with
  | zero =>
    intro i hi
    refine Ev.step (f := fun _ => some 0) (fun k => ?_) (Ev.now _)
    simp only [flow_within.l0]
    rw [if_neg (by omega)]
  | succ d ih =>
    intro i hi
    have hif : i < f.length := by omega
    have hil : i < l.length := by omega
    have hb := W.get i hil hif
    refine Ev.step (fun k => ?_) (ih (i + 1) (by omega))
    simp only [flow_within.l0]
    rw [if_pos (by omega), if_pos (by omega), if_pos (by omega), rd_get hif, rdT_get hil, if_neg (by omega), if_pos (by omega), if_neg (by omega), wrap_id (by omega) (by omega)]
    rfl
theorem within_yes {n s t : Int} {l : List S49} {f : List Int} (R : Right n s t l) (W : Within l f) : Ev (fun k => flow_within.f k n s t l f) 0 := by
  have hlen := W.len
  refine Ev.congr (fun k => ?_) (within_loop (n := n) (s := s) (t := t) W R.len f.length 0 (by omega))
  unfold flow_within.f
  rw [R.check]
  simp only [Option.bind_some, if_true]
  rw [if_pos (by omega)]
  rfl
theorem within_bad {n s t : Int} {l : List S49} {f : List Int} (hlen : f.length = l.length) (hl : l.length ≤ 2000) (d : Nat) : ∀ i : Nat, i + d = f.length → (∃ j, i ≤ j ∧ ∃ (h : j < l.length) (h' : j < f.length), ¬ (0 ≤ f[j] ∧ f[j] ≤ (l[j]).f2)) →
    Ev (fun k => flow_within.l0 k f (f.length : Int) (i : Int) n s t l) 3 := by
  induction d with
  | zero =>
    intro i hi ⟨j, h1, h2, h3, _⟩
    omega
  | succ d ih =>
    intro i hi ⟨j, h1, h2, h3, h4⟩
    have hif : i < f.length := by omega
    have hil : i < l.length := by omega
    by_cases c0 : f[i] < 0
    · refine Ev.step (f := fun _ => some 3) (fun k => ?_) (Ev.now _)
      simp only [flow_within.l0]
      rw [if_pos (by omega), if_pos (by omega), if_pos (by omega), rd_get hif, if_pos c0]
    · by_cases c1 : f[i] > (l[i]).f2
      · refine Ev.step (f := fun _ => some 3) (fun k => ?_) (Ev.now _)
        simp only [flow_within.l0]
        rw [if_pos (by omega), if_pos (by omega), if_pos (by omega), rd_get hif, rdT_get hil, if_neg c0, if_pos (by omega), if_pos c1]
      · have hne : i ≠ j := by
          rintro rfl
          exact h4 ⟨by omega, by omega⟩
        refine Ev.step (fun k => ?_) (ih (i + 1) (by omega) ⟨j, by omega, h2, h3, h4⟩)
        simp only [flow_within.l0]
        rw [if_pos (by omega), if_pos (by omega), if_pos (by omega), rd_get hif, rdT_get hil, if_neg c0, if_pos (by omega), if_neg c1, wrap_id (by omega) (by omega)]
        rfl
theorem within_no {n s t : Int} {l : List S49} {f : List Int} (R : Right n s t l) (hlen : f.length = l.length) (W : ¬ Within l f) : Ev (fun k => flow_within.f k n s t l f) 3 := by
  have hex : ∃ j, 0 ≤ j ∧ ∃ (h : j < l.length) (h' : j < f.length), ¬ (0 ≤ f[j] ∧ f[j] ≤ (l[j]).f2) := by
    apply Classical.byContradiction
    intro hn
    refine W (Within.of hlen fun i h h' => ?_)
    apply Classical.byContradiction
    intro hb
    exact hn ⟨i, Nat.zero_le _, h, h', hb⟩
  refine Ev.congr (fun k => ?_) (within_bad (n := n) (s := s) (t := t) hlen R.len f.length 0 (by omega) hex)
  unfold flow_within.f
  rw [R.check]
  simp only [Option.bind_some, if_true]
  rw [if_pos (by omega)]
  rfl
theorem within_count {n s t : Int} {l : List S49} {f : List Int} (R : Right n s t l) (hlen : f.length ≠ l.length) : Ev (fun k => flow_within.f k n s t l f) 6 := by
  refine Ev.congr (f := fun _ => some 6) (fun k => ?_) (Ev.now _)
  unfold flow_within.f
  rw [R.check]
  simp only [Option.bind_some, if_true]
  rw [if_neg (by omega)]
theorem check_loop {n s t : Int} {l : List S49} {x : List Int} (hn : n ≤ 500) (hx : (x.length : Int) = n + 1) (d : Nat) : ∀ i : Nat, (i : Int) + d = n → (∀ v, (i : Int) < v → v ≤ n → v ≠ s → v ≠ t → rd x v = 0) →
    Ev (fun k => flow_Check.l0 k x n (i : Int) n s t l) 0 := by
  induction d with
  | zero =>
    intro i hi _
    refine Ev.step (f := fun _ => some 0) (fun k => ?_) (Ev.now _)
    simp only [flow_Check.l0]
    rw [if_neg (by omega)]
  | succ d ih =>
    intro i hi hz
    refine Ev.step (fun k => ?_) (ih (i + 1) (by omega) (fun v h1 h2 h3 h4 => hz v (by omega) h2 h3 h4))
    simp only [flow_Check.l0]
    rw [if_pos (by omega), wrap_id (by omega) (by omega)]
    by_cases c1 : (i : Int) + 1 = s
    · rw [if_pos c1]; rfl
    · by_cases c2 : (i : Int) + 1 = t
      · rw [if_neg c1, if_pos c2]; rfl
      · rw [if_neg c1, if_neg c2, if_pos (by omega), if_pos (by omega), if_pos (hz _ (by omega) (by omega) c1 c2)]; rfl
theorem check_bad {n s t : Int} {l : List S49} {x : List Int} (hn : n ≤ 500) (hx : (x.length : Int) = n + 1) (d : Nat) : ∀ i : Nat, (i : Int) + d = n → (∃ v, (i : Int) < v ∧ v ≤ n ∧ v ≠ s ∧ v ≠ t ∧ rd x v ≠ 0) →
    Ev (fun k => flow_Check.l0 k x n (i : Int) n s t l) 9 := by
  induction d with
  | zero => intro i hi ⟨v, h1, h2, _⟩; omega
  | succ d ih =>
    intro i hi ⟨v, h1, h2, h3, h4, h5⟩
    by_cases c1 : (i : Int) + 1 = s
    · refine Ev.step (fun k => ?_) (ih (i + 1) (by omega) ⟨v, by omega, h2, h3, h4, h5⟩)
      simp only [flow_Check.l0]
      rw [if_pos (by omega), wrap_id (by omega) (by omega), if_pos c1]; rfl
    · by_cases c2 : (i : Int) + 1 = t
      · refine Ev.step (fun k => ?_) (ih (i + 1) (by omega) ⟨v, by omega, h2, h3, h4, h5⟩)
        simp only [flow_Check.l0]
        rw [if_pos (by omega), wrap_id (by omega) (by omega), if_neg c1, if_pos c2]; rfl
      · by_cases c3 : rd x ((i : Int) + 1) = 0
        · refine Ev.step (fun k => ?_) (ih (i + 1) (by omega) ⟨v, by
            by_cases e : v = (i : Int) + 1
            · rw [e] at h5; exact absurd c3 h5
            · omega, h2, h3, h4, h5⟩)
          simp only [flow_Check.l0]
          rw [if_pos (by omega), wrap_id (by omega) (by omega), if_neg c1, if_neg c2, if_pos (by omega), if_pos (by omega), if_pos c3]; rfl
        · refine Ev.step (f := fun _ => some 9) (fun k => ?_) (Ev.now _)
          simp only [flow_Check.l0]
          rw [if_pos (by omega), wrap_id (by omega) (by omega), if_neg c1, if_neg c2, if_pos (by omega), if_pos (by omega), if_neg c3]
theorem check_flow {n s t : Int} {l : List S49} {f : List Int} (R : Right n s t l) (F : IsFlow n s t l f) : Ev (fun k => flow_Check.f k n s t l f) 0 := by
  obtain ⟨x, h1, h2, h3⟩ := excesses_ev R F.within
  have hn := R.n2
  unfold flow_Check.f
  refine Ev.bind (within_yes R F.within) ?_
  simp only [if_true]
  refine Ev.bind h1 ?_
  exact check_loop R.n500 h2 n.toNat 0 (by omega) (fun v hv1 hv2 hv3 hv4 => by rw [h3 v (by omega) hv2]; exact F.cons v (by omega) hv2 hv3 hv4)
theorem check_state {n s t : Int} {l : List S49} {f : List Int} (R : Right n s t l) (W : Within l f) {v : Int} (v1 : 1 ≤ v) (vn : v ≤ n) (vs : v ≠ s) (vt : v ≠ t) (hv : exc l f v ≠ 0) : Ev (fun k => flow_Check.f k n s t l f) 9 := by
  obtain ⟨x, h1, h2, h3⟩ := excesses_ev R W
  have hn := R.n2
  unfold flow_Check.f
  refine Ev.bind (within_yes R W) ?_
  simp only [if_true]
  refine Ev.bind h1 ?_
  exact check_bad R.n500 h2 n.toNat 0 (by omega) ⟨v, by omega, vn, vs, vt, by rw [h3 v (by omega) vn]; exact hv⟩
theorem check_range {n s t : Int} {l : List S49} {f : List Int} (R : Right n s t l) (hlen : f.length = l.length) (W : ¬ Within l f) : Ev (fun k => flow_Check.f k n s t l f) 3 := by
  unfold flow_Check.f
  refine Ev.bind (within_no R hlen W) ?_
  exact Ev.congr (fun k => if_neg (by decide)) (Ev.now 3)
/-- A walk along arcs, by their numbers. -/
def Path (l : List S49) : Int → List Int → Int → Prop
  | u, [], v => u = v
  | u, i :: w, v => (rd_T49 l i).f0 = u ∧ Path l (rd_T49 l i).f1 w v
theorem Path.snoc {l : List S49} : ∀ {w : List Int} {u v i : Int}, Path l u w v → (rd_T49 l i).f0 = v → Path l u (w ++ [i]) (rd_T49 l i).f1
  | [], u, v, i, h, hi => ⟨by rw [hi]; exact h.symm, rfl⟩
  | _ :: w, u, v, i, h, hi => ⟨h.1, Path.snoc h.2 hi⟩
theorem wrap_succ {i : Nat} (h : i ≤ 1000000) : wrap64 ((i : Int) + 1) = ((i + 1 : Nat) : Int) := by rw [wrap_id (by omega) (by omega)]; rfl
theorem rdT_mem {l : List S49} {i : Int} (h0 : 0 ≤ i) (h1 : i < (l.length : Int)) : rd_T49 l i ∈ l := by
  have hlt : i.toNat < l.length := by omega
  have : rd_T49 l i = l[i.toNat] := by unfold rd_T49; rw [List.getD_eq_getElem?_getD, List.getElem?_eq_getElem hlt]; rfl
  rw [this]; exact List.getElem_mem hlt
theorem rd_nat {f : List Int} {j : Int} (h0 : 0 ≤ j) (h1 : j < (f.length : Int)) (h : j.toNat < f.length) : f[j.toNat] = rd f j := by
  unfold rd; rw [List.getD_eq_getElem?_getD, List.getElem?_eq_getElem h]; rfl
theorem rdT_nat {l : List S49} {j : Int} (h0 : 0 ≤ j) (h1 : j < (l.length : Int)) (h : j.toNat < l.length) : l[j.toNat] = rd_T49 l j := by
  unfold rd_T49; rw [List.getD_eq_getElem?_getD, List.getElem?_eq_getElem h]; rfl
/-! Residual tracks: r leads along arc r/2, backwards where r is odd. -/
theorem bit_odd {r : Int} (h0 : 0 ≤ r) (h1 : r ≤ 1000000) : Go.bits .and .i64 r 1 = r % 2 := by
  obtain ⟨i, rfl⟩ : ∃ i : Nat, r = (i : Int) := ⟨r.toNat, by omega⟩
  rw [Go.Proofs.and_one i (by omega)]; omega
theorem tdiv2 {r : Int} (h0 : 0 ≤ r) : Int.tdiv r 2 = r / 2 := Int.tdiv_eq_ediv_of_nonneg h0
def fromOf (l : List S49) (r : Int) : Int := if r % 2 = 1 then (rd_T49 l (r / 2)).f1 else (rd_T49 l (r / 2)).f0
def toOf (l : List S49) (r : Int) : Int := if r % 2 = 1 then (rd_T49 l (r / 2)).f0 else (rd_T49 l (r / 2)).f1
def InR (l : List S49) (r : Int) : Prop := 0 ≤ r ∧ r < 2 * (l.length : Int)
theorem ends_ev {n s t r : Int} {l : List S49} (h : InR l r) (hl : l.length ≤ 2000) : Ev (fun k => residual_Ends.f k n s t l r) (fromOf l r, toOf l r) := by
  obtain ⟨h0, h1⟩ := h
  have hd : wrap64 (Int.tdiv r 2) = r / 2 := by rw [tdiv2 h0, wrap_id (by omega) (by omega)]
  have e : Ev (fun k => residual_Ends.j0 k r (decide (wrap64 (Int.tdiv r 2) ≥ (l.length : Int))) n s t l) (fromOf l r, toOf l r) := by
    refine Ev.step (f := fun _ => some (fromOf l r, toOf l r)) (fun k => ?_) (Ev.now _)
    simp only [residual_Ends.j0, hd, bit_odd h0 (show r ≤ 1000000 by omega)]
    rw [if_neg (by simp; omega), if_pos (by omega), if_pos (by omega)]
    unfold fromOf toOf
    by_cases c : r % 2 = 1
    · rw [if_pos c, if_pos c, if_pos c]
    · rw [if_neg c, if_neg c, if_neg c]
  refine Ev.congr (fun k => ?_) e
  unfold residual_Ends.f
  rw [if_neg (by omega)]
theorem ends_range {n : Int} {l : List S49} {r : Int} (hg : ∀ a ∈ l, GoodArc n a) (h : InR l r) : 1 ≤ fromOf l r ∧ fromOf l r ≤ n ∧ 1 ≤ toOf l r ∧ toOf l r ≤ n := by
  obtain ⟨h0, h1⟩ := h
  obtain ⟨g0, g1, g2, g3, _⟩ := hg _ (rdT_mem (l := l) (i := r / 2) (by omega) (by omega))
  unfold fromOf toOf
  split <;> omega
/-- A walk along residual tracks. -/
def RPath (l : List S49) : Int → List Int → Int → Prop
  | u, [], v => u = v
  | u, r :: w, v => fromOf l r = u ∧ RPath l (toOf l r) w v
theorem RPath.snoc {l : List S49} : ∀ {w : List Int} {u v r : Int}, RPath l u w v → fromOf l r = v → RPath l u (w ++ [r]) (toOf l r)
  | [], u, v, r, h, hr => ⟨by rw [hr]; exact h.symm, rfl⟩
  | _ :: w, u, v, r, h, hr => ⟨h.1, RPath.snoc h.2 hr⟩
theorem within_rd {l : List S49} {f : List Int} (W : Within l f) {i : Int} (h0 : 0 ≤ i) (h1 : i < (l.length : Int)) : 0 ≤ rd f i ∧ rd f i ≤ (rd_T49 l i).f2 := by
  have hlen := W.len
  have hb := W.get i.toNat (by omega) (by omega)
  rwa [rd_nat h0 (by omega) (by omega), rdT_nat h0 h1 (by omega)] at hb
theorem roomOf_len : ∀ {l : List S49} {f : List Int}, f.length = l.length → (roomOf l f).length = 2 * l.length
  | [], [], _ => rfl
  | a :: l, x :: f, h => by
    have := roomOf_len (l := l) (f := f) (by simpa using h)
    simp only [roomOf, List.length_cons, this]; omega
  | [], _ :: _, h => absurd h (by simp)
  | _ :: _, [], h => absurd h (by simp)
theorem room_ev {n s t : Int} {l : List S49} {f : List Int} (R : Right n s t l) (F : IsFlow n s t l f) : Ev (fun k => residual_Room.f k n s t l f) (roomOf l f, 0) := by
  have hlen := F.within.len
  have hl := R.len
  unfold residual_Room.f
  refine Ev.bind (check_flow R F) ?_
  have c : f.length ≤ l.length ∧ f.length ≤ 8796093022208 := by omega
  simp only [if_true, if_pos c]
  exact Ev.now _
/-- The residual tracks below m that begin at v. -/
def tr (l : List S49) (v : Int) : Nat → List Int
  | 0 => []
  | m + 1 => tr l v m ++ (if fromOf l (m : Int) = v then [(m : Int)] else [])
theorem tr_len {l : List S49} {v : Int} : ∀ m : Nat, (tr l v m).length ≤ m
  | 0 => Nat.le_refl _
  | m + 1 => by
    have := tr_len (l := l) (v := v) m
    simp only [tr, List.length_append]
    split <;> simp <;> omega
theorem tr_two {l : List S49} {v : Int} (i : Nat) : tr l v (2 * (i + 1)) = tr l v (2 * i) ++ (if (rd_T49 l (i : Int)).f0 = v then [2 * (i : Int)] else []) ++ (if (rd_T49 l (i : Int)).f1 = v then [2 * (i : Int) + 1] else []) := by
  have f0 : fromOf l ((2 * i : Nat) : Int) = (rd_T49 l (i : Int)).f0 := by
    unfold fromOf
    rw [if_neg (by omega), show ((2 * i : Nat) : Int) / 2 = (i : Int) by omega]
  have f1 : fromOf l ((2 * i + 1 : Nat) : Int) = (rd_T49 l (i : Int)).f1 := by
    unfold fromOf
    rw [if_pos (by omega), show ((2 * i + 1 : Nat) : Int) / 2 = (i : Int) by omega]
  show tr l v (2 * i + 1 + 1) = _
  simp only [tr, f0, f1]
  rw [show ((2 * i : Nat) : Int) = 2 * (i : Int) by omega, show ((2 * i + 1 : Nat) : Int) = 2 * (i : Int) + 1 by omega]
theorem tracks_loop {l : List S49} {v : Int} (hl : l.length ≤ 2000) (d : Nat) : ∀ i : Nat, i + d = l.length →
    Ev (fun k => residual_From.l0 k v (tr l v (2 * i)) l (l.length : Int) (i : Int)) (tr l v (2 * l.length)) := by
  induction d with
  | zero =>
    intro i hi
    obtain rfl : i = l.length := by omega
    refine Ev.step (f := fun _ => some (tr l v (2 * l.length))) (fun k => ?_) (Ev.now _)
    simp only [residual_From.l0]
    rw [if_neg (by omega)]
  | succ d ih =>
    intro i hi
    have hil : i < l.length := by omega
    have hT := tr_len (l := l) (v := v) (2 * i)
    refine Ev.step (fun k => ?_) (ih (i + 1) (by omega))
    rw [tr_two]
    generalize tr l v (2 * i) = T at hT
    simp only [residual_From.l0]
    rw [wrap_id (x := 2 * (i : Int)) (by omega) (by omega), wrap_id (x := 2 * (i : Int) + 1) (by omega) (by omega), if_pos (by omega), if_pos (by omega), if_pos (by omega), wrap_succ (by omega)]
    by_cases c0 : (rd_T49 l (i : Int)).f0 = v
    · rw [if_pos c0, if_pos c0, if_pos (by omega)]
      simp only [Option.bind_some]
      by_cases c1 : (rd_T49 l (i : Int)).f1 = v
      · rw [if_pos c1, if_pos c1, if_pos (by simp; omega)]
      · rw [if_neg c1, if_neg c1, List.append_nil]
    · rw [if_neg c0, if_neg c0, List.append_nil]
      by_cases c1 : (rd_T49 l (i : Int)).f1 = v
      · rw [if_pos c1, if_pos c1, if_pos (by omega)]
      · rw [if_neg c1, if_neg c1, List.append_nil]
theorem tracks_ev {n s t v : Int} {l : List S49} (hl : l.length ≤ 2000) : Ev (fun k => residual_From.f k n s t l v) (tr l v (2 * l.length)) :=
  tracks_loop hl l.length 0 (by omega)
theorem tracks_at2 {fr : Int → Int} {m : Nat} : ∀ (N v : Nat), v < m → ∃ x, (Go.Proofs.YtbppeffcikphcaaW.Mine.trAll fr m N)[v]? = some x ∧ ∀ r, (0 ≤ r ∧ r < (N : Int) ∧ (fr r).toNat = v) ↔ r ∈ x
  | 0, v, h => ⟨[], by simp [Go.Proofs.YtbppeffcikphcaaW.Mine.trAll, h], fun r => ⟨fun hr => by omega, fun hr => by cases hr⟩⟩
  | N + 1, v, h => by
    obtain ⟨x, hx, hr⟩ := tracks_at2 (fr := fr) (m := m) N v h
    have hl := Go.Proofs.YtbppeffcikphcaaW.Mine.trAll_length fr m N
    simp only [Go.Proofs.YtbppeffcikphcaaW.Mine.trAll, Go.Proofs.YtbppeffcikphcaaW.Mine.trAdd]
    by_cases c : (fr (N : Int)).toNat = v
    · rw [c]
      have e : (Go.Proofs.YtbppeffcikphcaaW.Mine.trAll fr m N).getD v [] = x := by rw [List.getD_eq_getElem?_getD, hx]; rfl
      refine ⟨x ++ [(N : Int)], by rw [List.getElem?_set_self (by omega), e], fun r => ?_⟩
      rw [List.mem_append, List.mem_singleton, ← hr r]
      constructor
      · intro h1
        by_cases c2 : r = (N : Int)
        · exact .inr c2
        · exact .inl ⟨h1.1, by omega, h1.2.2⟩
      · rintro (h1 | rfl)
        · exact ⟨h1.1, by omega, h1.2.2⟩
        · exact ⟨by omega, by omega, c⟩
    · refine ⟨x, by rw [List.getElem?_set_ne c]; exact hx, fun r => ?_⟩
      rw [← hr r]
      constructor
      · intro h1
        refine ⟨h1.1, ?_, h1.2.2⟩
        by_cases c2 : r = (N : Int)
        · subst c2; exact absurd h1.2.2 c
        · omega
      · intro h1
        exact ⟨h1.1, by omega, h1.2.2⟩
/-! What the search tells: which nodes it meets. -/
theorem rdB_set {m : List Bool} {q v : Int} {b : Bool} (q0 : 0 ≤ q) (q1 : q < (m.length : Int)) (v0 : 0 ≤ v) : rdOf false (m.set q.toNat b) v = if q = v then b else rdOf false m v := by
  unfold rdOf
  rw [List.getD_eq_getElem?_getD, List.getD_eq_getElem?_getD, List.getElem?_set]
  by_cases e : q = v
  · subst e
    rw [if_pos rfl, if_pos (by omega), if_pos rfl]; rfl
  · rw [if_neg (by omega), if_neg e]
def cntB : List Bool → Nat
  | [] => 0
  | x :: t => (if x = false then 1 else 0) + cntB t
theorem cntB_set : ∀ {m : List Bool} {i : Nat} (h : i < m.length), m[i] = false → cntB (m.set i true) + 1 = cntB m
  | [], i, h, _ => absurd h (by simp)
  | y :: t, 0, _, hy => by
    have hy : y = false := hy
    subst hy
    simp only [List.set_cons_zero, cntB, if_true]
    simp
    omega
  | y :: t, i + 1, h, hy => by
    have h1 : i < t.length := by simpa using h
    have ih := cntB_set h1 (by simpa using hy)
    simp only [List.set_cons_succ, cntB]
    omega
theorem cntB_replicate : ∀ k, cntB (List.replicate k false) = k
  | 0 => rfl
  | k + 1 => by rw [List.replicate_succ, cntB, cntB_replicate k, if_pos rfl]; omega
/-- What was met, as it must be. -/
structure IsMet (n s : Int) (l : List S49) (room : List Int) (least : Int) (met : List Bool) : Prop where
  len : (met.length : Int) = n + 1
  src : rdOf false met s = true
  step : ∀ r, InR l r → least ≤ rd room r → rdOf false met (fromOf l r) = true → rdOf false met (toOf l r) = true
  min : ∀ P : Int → Prop, P s → (∀ r, InR l r → least ≤ rd room r → P (fromOf l r) → P (toOf l r)) → ∀ v, 0 ≤ v → v ≤ n → rdOf false met v = true → P v
structure RInv (n s : Int) (l : List S49) (room : List Int) (least : Int) (ts : List (List Int)) (met : List Bool) (wait : List Int) : Prop where
  len : (met.length : Int) = n + 1
  tlen : ts.length = met.length
  cnt : wait.length + cntB met ≤ met.length
  src : rdOf false met s = true
  wtd : ∀ v ∈ wait, 1 ≤ v ∧ v ≤ n ∧ rdOf false met v = true
  trk : ∀ v, 1 ≤ v → v ≤ n → ∀ r ∈ ts.getD v.toNat [], InR l r ∧ fromOf l r = v
  done : ∀ r, InR l r → least ≤ rd room r → r ∉ ts.getD (fromOf l r).toNat [] → rdOf false met (toOf l r) = true
  all : ∀ r, InR l r → least ≤ rd room r → rdOf false met (fromOf l r) = true → fromOf l r ∉ wait → rdOf false met (toOf l r) = true
  min : ∀ P : Int → Prop, P s → (∀ r, InR l r → least ≤ rd room r → P (fromOf l r) → P (toOf l r)) → ∀ v, 0 ≤ v → v ≤ n → rdOf false met v = true → P v
section
variable {n s least : Int} {l : List S49} {room : List Int}
theorem find_none {met : List Bool} : ∀ {rs : List Int}, rcFind l room least met rs = none → ∀ r ∈ rs, least ≤ rd room r → rdOf false met (toOf l r) = true
  | [], _, r, hr, _ => by cases hr
  | q :: rs, h, r, hr, hroom => by
    have et : rcTo l q = toOf l q := rfl
    rw [rcFind, et] at h
    by_cases c : least ≤ rd room q ∧ rdOf false met (toOf l q) = false
    · rw [if_pos c] at h; cases h
    · rw [if_neg c] at h
      rcases List.mem_cons.1 hr with rfl | hr
      · cases e : rdOf false met (toOf l r) with
        | true => rfl
        | false => exact absurd ⟨hroom, e⟩ c
      · exact find_none h r hr hroom
theorem find_some {met : List Bool} {v : Int} {tl : List Int} : ∀ {rs : List Int}, rcFind l room least met rs = some (v, tl) →
    ∃ q ∈ rs, least ≤ rd room q ∧ toOf l q = v ∧ rdOf false met v = false ∧ (∀ r ∈ tl, r ∈ rs) ∧ ∀ r ∈ rs, r ∉ tl → r = q ∨ (least ≤ rd room r → rdOf false met (toOf l r) = true)
  | [], h => by cases h
  | q :: rs, h => by
    have et : rcTo l q = toOf l q := rfl
    rw [rcFind, et] at h
    by_cases c : least ≤ rd room q ∧ rdOf false met (toOf l q) = false
    · rw [if_pos c] at h
      have h := Option.some.inj h
      have e1 : toOf l q = v := congrArg Prod.fst h
      have e2 : rs = tl := congrArg Prod.snd h
      subst e2
      refine ⟨q, List.mem_cons_self, c.1, e1, by rw [← e1]; exact c.2, fun r hr => List.mem_cons_of_mem _ hr, fun r hr hn => ?_⟩
      rcases List.mem_cons.1 hr with e | hr
      · exact .inl e
      · exact absurd hr hn
    · rw [if_neg c] at h
      obtain ⟨p, hp, h1, h2, h3, h4, h5⟩ := find_some h
      refine ⟨p, List.mem_cons_of_mem _ hp, h1, h2, h3, fun r hr => List.mem_cons_of_mem _ (h4 r hr), fun r hr hn => ?_⟩
      rcases List.mem_cons.1 hr with rfl | hr
      · right
        intro hroom
        cases e : rdOf false met (toOf l r) with
        | true => rfl
        | false => exact absurd ⟨hroom, e⟩ c
      · exact h5 r hr hn
theorem getD_set {ts : List (List Int)} {x : List Int} {i j : Nat} (h : i < ts.length) : (ts.set i x).getD j [] = if i = j then x else ts.getD j [] := by
  rw [List.getD_eq_getElem?_getD, List.getD_eq_getElem?_getD, List.getElem?_set]
  by_cases e : i = j
  · rw [if_pos e, if_pos (by omega), if_pos e]; rfl
  · rw [if_neg e, if_neg e]
theorem take_last {w : List Int} (h : w ≠ []) : w = w.take (w.length - 1) ++ [rd w ((w.length : Int) - 1)] := by
  have hl : 0 < w.length := List.length_pos_iff.2 h
  have e : rd w ((w.length : Int) - 1) = w[w.length - 1]'(by omega) := by
    unfold rd
    have e1 : ((w.length : Int) - 1).toNat = w.length - 1 := by omega
    rw [e1, List.getD_eq_getElem?_getD, List.getElem?_eq_getElem (by omega)]; rfl
  rw [e]
  have h1 := List.take_succ_eq_append_getElem (l := w) (i := w.length - 1) (by omega)
  rw [← h1, List.take_of_length_le (by omega)]
theorem rcwalk_ev (hg : ∀ a ∈ l, GoodArc n a) (hn : n ≤ 500) (d : Nat) :
    ∀ (ts : List (List Int)) (met : List Bool) (wait : List Int), 2 * cntB met + wait.length ≤ d → RInv n s l room least ts met wait → ∃ m, Ev (fun k => rcWalk l room least k ts met wait) m ∧ IsMet n s l room least m := by
  induction d with
  | zero =>
    intro ts met wait hd I
    have hz : wait.length = 0 := by omega
    have hz2 : wait = [] := List.length_eq_zero_iff.1 hz
    refine ⟨met, Ev.step (f := fun _ => some met) (fun k => ?_) (Ev.now _), ⟨I.len, I.src, fun r hr hroom h => I.all r hr hroom h (by rw [hz2]; exact fun h => by (cases h)), I.min⟩⟩
    simp only [rcWalk]
    rw [if_pos hz]
  | succ d ih =>
    intro ts met wait hd I
    by_cases hz : wait.length = 0
    · have hz2 : wait = [] := List.length_eq_zero_iff.1 hz
      refine ⟨met, Ev.step (f := fun _ => some met) (fun k => ?_) (Ev.now _), ⟨I.len, I.src, fun r hr hroom h => I.all r hr hroom h (by rw [hz2]; exact fun h => by (cases h)), I.min⟩⟩
      simp only [rcWalk]
      rw [if_pos hz]
    · have hne : wait ≠ [] := fun e => hz (by rw [e]; rfl)
      have hw := take_last hne
      have hcnt := I.cnt
      have hlen := I.len
      have htl := I.tlen
      have hwl : wait.length ≤ 1000000 := by omega
      obtain ⟨v, hv⟩ : ∃ v, rd wait ((wait.length : Int) - 1) = v := ⟨_, rfl⟩
      obtain ⟨w, hwd⟩ : ∃ w, wait.take (wait.length - 1) = w := ⟨_, rfl⟩
      have hwlen : w.length + 1 = wait.length := by rw [← hwd, List.length_take]; omega
      rw [hv, hwd] at hw
      obtain ⟨v1, vn, hmv⟩ := I.wtd v (by rw [hw]; exact List.mem_append.2 (.inr (List.mem_singleton.2 rfl)))
      cases hf : rcFind l room least met (ts.getD v.toNat []) with
      | none =>
        obtain ⟨m, hm, M⟩ := ih ts met w (by omega) ⟨I.len, I.tlen, by omega, I.src, fun u hu => I.wtd u (by rw [hw]; exact List.mem_append.2 (.inl hu)), I.trk, I.done, fun r hr hroom h hnw => by
          by_cases c : fromOf l r = v
          · by_cases c2 : r ∈ ts.getD v.toNat []
            · exact find_none hf r c2 hroom
            · exact I.done r hr hroom (by rw [c]; exact c2)
          · refine I.all r hr hroom h (fun hc => ?_)
            rw [hw] at hc
            rcases List.mem_append.1 hc with hc | hc
            · exact hnw hc
            · exact c (List.mem_singleton.1 hc), I.min⟩
        refine ⟨m, Ev.step (fun k => ?_) hm, M⟩
        simp only [rcWalk]
        rw [if_neg hz, if_pos hwl, hv, hf, hwd]
      | some p =>
        obtain ⟨q, tl⟩ := p
        obtain ⟨r0, hr0, hroom0, hto, hmq, hsub, hold⟩ := find_some hf
        obtain ⟨hi0, hfrom⟩ := I.trk v v1 vn r0 hr0
        obtain ⟨_, _, t1, tn⟩ := ends_range hg hi0
        rw [hto] at t1 tn
        have hset : ∀ u, 0 ≤ u → rdOf false (met.set q.toNat true) u = if q = u then true else rdOf false met u := fun u hu => rdB_set (by omega) (by omega) hu
        have hkeep : ∀ u, 0 ≤ u → rdOf false met u = true → rdOf false (met.set q.toNat true) u = true := fun u hu h => by rw [hset u hu]; split; rfl; exact h
        have hgd : ∀ j : Nat, (ts.set v.toNat tl).getD j [] = if v.toNat = j then tl else ts.getD j [] := fun j => getD_set (by omega)
        have hqn : q.toNat < met.length := by omega
        have hget : met[q.toNat] = false := by
          have h := hmq
          unfold rdOf at h
          rw [List.getD_eq_getElem?_getD, List.getElem?_eq_getElem hqn] at h
          exact h
        have hcs := cntB_set hqn hget
        have hsn : 0 ≤ s := by
          apply Classical.byContradiction
          intro hc
          have h1 := I.src
          have e : rdOf false met s = rdOf false met 0 := by unfold rdOf; rw [show s.toNat = (0 : Int).toNat by omega]
          rw [e] at h1
          have h2 := I.min (fun u => u ≠ 0) (by omega) (fun r hr _ _ => by have := ends_range hg hr; omega) 0 (by omega) (by omega) h1
          exact h2 rfl
        obtain ⟨m, hm, M⟩ := ih (ts.set v.toNat tl) (met.set q.toNat true) (wait ++ [q]) (by rw [List.length_append, List.length_singleton]; omega) ⟨by rw [List.length_set]; exact hlen, by rw [List.length_set, List.length_set]; exact htl, by rw [List.length_append, List.length_singleton, List.length_set]; omega, hkeep s hsn I.src, fun u hu => by
            rcases List.mem_append.1 hu with hu | hu
            · obtain ⟨a, b, c⟩ := I.wtd u hu
              exact ⟨a, b, hkeep u (by omega) c⟩
            · obtain rfl := List.mem_singleton.1 hu
              exact ⟨t1, tn, by rw [hset u (by omega), if_pos rfl]⟩, fun u u1 un r hr => by
            rw [hgd] at hr
            by_cases c : v.toNat = u.toNat
            · rw [if_pos c] at hr
              have e : v = u := by omega
              rw [← e]
              exact I.trk v v1 vn r (hsub r hr)
            · rw [if_neg c] at hr
              exact I.trk u u1 un r hr, fun r hr hroom hnot => by
            obtain ⟨f1, fn, g1, gn⟩ := ends_range hg hr
            rw [hgd] at hnot
            by_cases c : v.toNat = (fromOf l r).toNat
            · rw [if_pos c] at hnot
              by_cases c2 : r ∈ ts.getD (fromOf l r).toNat []
              · rw [← c] at c2
                rcases hold r c2 hnot with rfl | h
                · rw [hto, hset q (by omega), if_pos rfl]
                · exact hkeep _ (by omega) (h hroom)
              · exact hkeep _ (by omega) (I.done r hr hroom c2)
            · rw [if_neg c] at hnot
              exact hkeep _ (by omega) (I.done r hr hroom hnot), fun r hr hroom h hnw => by
            obtain ⟨f1, fn, g1, gn⟩ := ends_range hg hr
            rw [hset _ (by omega)] at h
            have hnq : q ≠ fromOf l r := fun e => hnw (List.mem_append.2 (.inr (List.mem_singleton.2 e.symm)))
            rw [if_neg hnq] at h
            exact hkeep _ (by omega) (I.all r hr hroom h (fun hc => hnw (List.mem_append.2 (.inl hc)))), fun P hP hstep u u0 un h => by
            rw [hset u u0] at h
            by_cases c : q = u
            · rw [← c, ← hto]
              refine hstep r0 hi0 hroom0 ?_
              rw [hfrom]
              exact I.min P hP hstep v (by omega) vn hmv
            · rw [if_neg c] at h
              exact I.min P hP hstep u u0 un h⟩
        refine ⟨m, Ev.step (fun k => ?_) hm, M⟩
        simp only [rcWalk]
        rw [if_neg hz, if_pos hwl, hv, hf]
end
theorem reach_ev {n s t least : Int} {l : List S49} {f : List Int} (R : Right n s t l) (F : IsFlow n s t l f) (hl : 1 ≤ least) :
    ∃ met, Ev (fun k => residual_Reach.f k n s t l f least) (met, 0) ∧ IsMet n s l (roomOf l f) least met := by
  have h1 := R.n2
  have h2 := R.n500
  have h3 := R.s1
  have h4 := R.sn
  have h5 := R.len
  have hlen : (roomOf l f).length = 2 * l.length := roomOf_len F.1.len
  have hrl : (List.replicate (n + 1).toNat false).length = (n + 1).toNat := List.length_replicate
  have hrep : ∀ v, 0 ≤ v → v ≤ n → rdOf false (List.replicate (n + 1).toNat false) v = false := fun v v0 vn => by
    have : v.toNat < (n + 1).toNat := by omega
    simp [rdOf, this]
  have hrs : ∀ v, 0 ≤ v → rdOf false ((List.replicate (n + 1).toNat false).set s.toNat true) v = if s = v then true else rdOf false (List.replicate (n + 1).toNat false) v := fun v v0 => rdB_set (by omega) (by omega) v0
  have hcn : cntB ((List.replicate (n + 1).toNat false).set s.toNat true) + 1 = (n + 1).toNat := by
    have := cntB_set (m := List.replicate (n + 1).toNat false) (i := s.toNat) (by omega) (by simp)
    rw [cntB_replicate] at this
    exact this
  have hts : ∀ v, 0 ≤ v → v ≤ n → ∀ r, r ∈ (Go.Proofs.YtbppeffcikphcaaW.Mine.trAll (rcFrom l) (n + 1).toNat (roomOf l f).length).getD v.toNat [] ↔ InR l r ∧ fromOf l r = v := fun v v0 vn r => by
    obtain ⟨x, hx, hr⟩ := tracks_at2 (fr := rcFrom l) (m := (n + 1).toNat) (roomOf l f).length v.toNat (by omega)
    rw [List.getD_eq_getElem?_getD, hx]
    show r ∈ x ↔ _
    rw [← hr r]
    have e : rcFrom l r = fromOf l r := rfl
    rw [e, hlen]
    constructor
    · rintro ⟨a, b, c⟩
      have hi : InR l r := ⟨a, by omega⟩
      have := ends_range R.arcs hi
      exact ⟨hi, by omega⟩
    · rintro ⟨a, b⟩
      have := a.1
      have := a.2
      exact ⟨a.1, by omega, by omega⟩
  have I : RInv n s l (roomOf l f) least (Go.Proofs.YtbppeffcikphcaaW.Mine.trAll (rcFrom l) (n + 1).toNat (roomOf l f).length) ((List.replicate (n + 1).toNat false).set s.toNat true) [s] := by
    refine ⟨by rw [List.length_set, hrl]; omega, by rw [List.length_set, hrl, Go.Proofs.YtbppeffcikphcaaW.Mine.trAll_length], by rw [List.length_set, hrl, List.length_singleton]; omega, by rw [hrs s (by omega), if_pos rfl], fun v hv => ?_, fun v v1 vn r hr => (hts v (by omega) vn r).1 hr, fun r hr hroom hn => ?_, fun r hr hroom h hn => ?_, fun P hP _ v v0 vn h => ?_⟩
    · obtain rfl := List.mem_singleton.1 hv
      exact ⟨h3, h4, by rw [hrs _ (by omega), if_pos rfl]⟩
    · have := ends_range R.arcs hr
      exact absurd ((hts (fromOf l r) (by omega) (by omega) r).2 ⟨hr, rfl⟩) hn
    · have := ends_range R.arcs hr
      rw [hrs _ (by omega)] at h
      by_cases c : s = fromOf l r
      · exact absurd (List.mem_singleton.2 c.symm) hn
      · rw [if_neg c, hrep _ (by omega) (by omega)] at h
        cases h
    · rw [hrs v v0] at h
      by_cases c : s = v
      · rw [← c]; exact hP
      · rw [if_neg c, hrep v v0 vn] at h
        cases h
  obtain ⟨met, hm, M⟩ := rcwalk_ev R.arcs h2 _ _ _ _ (Nat.le_refl _) I
  refine ⟨met, ?_, M⟩
  have hfit : rcFit n s l (roomOf l f) = true := by
    simp only [rcFit, Bool.and_eq_true, decide_eq_true_eq, List.all_eq_true]
    refine ⟨⟨by omega, by omega, by omega, h4, h5, hlen⟩, fun a ha => ?_⟩
    obtain ⟨g0, g1, g2, g3, _⟩ := R.arcs a ha
    omega
  unfold residual_Reach.f
  refine Ev.bind (room_ev R F) ?_
  simp only [if_true, if_neg (show ¬ least < 1 by omega), hfit]
  exact Ev.bind hm (Ev.now _)
/-! The document's check of a network, and of amounts, tells what the program's does. -/
theorem chk_inv {n : Int} : ∀ {l : List S49} {s : Int}, chkArcs n l s = some 0 → s ≤ 4611686018427387903 → (∀ a ∈ l, GoodArc n a) ∧ s + sumCap l ≤ 4611686018427387903
  | [], s, _, h1 => ⟨fun a h => by (cases h), by simp only [sumCap]; omega⟩
  | a :: t, s, h, h1 => by
    simp only [chkArcs] at h
    by_cases c0 : -9223372036854775808 ≤ a.f2 ∧ a.f2 ≤ 9223372036854775807
    · rw [if_pos c0] at h
      by_cases c1 : 1 ≤ a.f0 ∧ a.f0 ≤ n ∧ 1 ≤ a.f1 ∧ a.f1 ≤ n
      · rw [if_pos c1] at h
        by_cases c2 : a.f2 < 0
        · rw [if_pos c2] at h
          exact absurd (Option.some.inj h) (by decide)
        · rw [if_neg c2] at h
          by_cases c3 : 4611686018427387903 < s + a.f2
          · rw [if_pos c3] at h
            exact absurd (Option.some.inj h) (by decide)
          · rw [if_neg c3] at h
            obtain ⟨i1, i2⟩ := chk_inv h (by omega)
            refine ⟨fun b hb => ?_, by simp only [sumCap]; omega⟩
            rcases List.mem_cons.1 hb with rfl | hb
            · exact ⟨c1.1, c1.2.1, c1.2.2.1, c1.2.2.2, by omega⟩
            · exact i1 b hb
      · rw [if_neg c1] at h
        exact absurd (Option.some.inj h) (by decide)
    · rw [if_neg c0] at h
      cases h
theorem right_of {n s t : Int} {l : List S49} (h : net_Check.f n s t l = some 0) : Right n s t l := by
  unfold net_Check.f at h
  by_cases c0 : n < 2 ∨ 500 < n
  · rw [if_pos c0] at h
    exact absurd (Option.some.inj h) (by decide)
  · rw [if_neg c0] at h
    by_cases c1 : 1 ≤ s ∧ s ≤ n ∧ 1 ≤ t ∧ t ≤ n
    · rw [if_neg (fun h => h c1)] at h
      by_cases c2 : s = t
      · rw [if_pos c2] at h
        exact absurd (Option.some.inj h) (by decide)
      · rw [if_neg c2] at h
        by_cases c3 : 2000 < l.length
        · rw [if_pos c3] at h
          exact absurd (Option.some.inj h) (by decide)
        · rw [if_neg c3] at h
          obtain ⟨i1, i2⟩ := chk_inv h (by decide)
          exact ⟨by omega, by omega, c1.1, c1.2.1, c1.2.2.1, c1.2.2.2, c2, by omega, i1, by omega⟩
    · rw [if_pos c1] at h
      exact absurd (Option.some.inj h) (by decide)
theorem ref3_loop {n s t : Int} {l : List S49} (hw : ∀ a ∈ l, -9223372036854775808 ≤ a.f2 ∧ a.f2 ≤ 9223372036854775807) (hl : l.length ≤ 2000) (d : Nat) :
    ∀ (i : Nat) (u : Int), i + d = l.length → 0 ≤ u → u ≤ 4611686018427387903 → ∃ e, chkArcs n (l.drop i) u = some e ∧ Ev (fun k => racewayref3_Check.l0 k (4611686018427387903 - u) (i : Int) n s t l) e := by
  induction d with
  | zero =>
    intro i u hi _ _
    refine ⟨0, by rw [List.drop_of_length_le (by omega)]; rfl, Ev.step (f := fun _ => some 0) (fun k => ?_) (Ev.now _)⟩
    simp only [racewayref3_Check.l0]
    rw [if_neg (by omega)]
  | succ d ih =>
    intro i u hi u0 u1
    have hil : i < l.length := by omega
    have hwa := hw l[i] (List.getElem_mem hil)
    have hs : ∀ k, racewayref3_Check.l0 (k + 1) (4611686018427387903 - u) (i : Int) n s t l = racewayref3_Check.j3 k (4611686018427387903 - u) (i : Int) (decide (¬ (1 ≤ (l[i]).f0 ∧ (l[i]).f0 ≤ n ∧ 1 ≤ (l[i]).f1 ∧ (l[i]).f1 ≤ n))) n s t l (l[i]).f0 (l[i]).f1 (l[i]).f2 := fun k => by
      simp only [racewayref3_Check.l0]
      rw [if_pos (by omega), if_pos (by omega), rdT_get hil]
      by_cases c0 : (l[i]).f0 < 1
      · rw [if_pos c0, decide_eq_true (by omega)]
      · rw [if_neg c0]
        by_cases c1 : (l[i]).f0 > n
        · rw [if_pos c1, decide_eq_true (by omega)]
        · rw [if_neg c1]
          by_cases c2 : (l[i]).f1 < 1
          · rw [if_pos c2, decide_eq_true (by omega)]
          · rw [if_neg c2]
            have : decide ((l[i]).f1 > n) = decide (¬ (1 ≤ (l[i]).f0 ∧ (l[i]).f0 ≤ n ∧ 1 ≤ (l[i]).f1 ∧ (l[i]).f1 ≤ n)) := decide_eq_decide.2 (by omega)
            rw [this]
    rw [List.drop_eq_getElem_cons hil]
    simp only [chkArcs]
    rw [if_pos hwa]
    by_cases c1 : 1 ≤ (l[i]).f0 ∧ (l[i]).f0 ≤ n ∧ 1 ≤ (l[i]).f1 ∧ (l[i]).f1 ≤ n
    · rw [if_pos c1]
      rw [decide_eq_false (fun h => h c1)] at hs
      by_cases c2 : (l[i]).f2 < 0
      · refine ⟨3, by rw [if_pos c2], Ev.step hs (Ev.step (f := fun _ => some 3) (fun k => ?_) (Ev.now _))⟩
        simp only [racewayref3_Check.j3]
        rw [if_neg (by decide), if_pos c2]
      · rw [if_neg c2]
        by_cases c3 : 4611686018427387903 < u + (l[i]).f2
        · refine ⟨7, by rw [if_pos c3], Ev.step hs (Ev.step (f := fun _ => some 7) (fun k => ?_) (Ev.now _))⟩
          simp only [racewayref3_Check.j3]
          rw [if_neg (by decide), if_neg c2, if_pos (by omega)]
        · obtain ⟨e, he, hE⟩ := ih (i + 1) (u + (l[i]).f2) (by omega) (by omega) (by omega)
          refine ⟨e, by rw [if_neg c3]; exact he, Ev.step hs (Ev.step (fun k => ?_) hE)⟩
          simp only [racewayref3_Check.j3]
          rw [if_neg (by decide), if_neg c2, if_neg (by omega), wrap_id (x := 4611686018427387903 - u - (l[i]).f2) (by omega) (by omega), wrap_id (x := (i : Int) + 1) (by omega) (by omega), show 4611686018427387903 - u - (l[i]).f2 = 4611686018427387903 - (u + (l[i]).f2) by omega]
          rfl
    · refine ⟨4, by rw [if_neg c1], Ev.step hs (Ev.step (f := fun _ => some 4) (fun k => ?_) (Ev.now _))⟩
      rw [decide_eq_true c1]
      simp only [racewayref3_Check.j3]
      rw [if_pos (by trivial)]
theorem ref3_ev {n s t : Int} {l : List S49} (hw : ∀ a ∈ l, -9223372036854775808 ≤ a.f2 ∧ a.f2 ≤ 9223372036854775807) :
    ∃ e, net_Check.f n s t l = some e ∧ Ev (fun k => racewayref3_Check.f k n s t l) e := by
  have h0 : ∀ k, racewayref3_Check.f k n s t l = racewayref3_Check.j0 k (decide (n < 2 ∨ 500 < n)) n s t l := fun k => by
    unfold racewayref3_Check.f
    by_cases c : n < 2
    · rw [if_pos c, decide_eq_true (.inl c)]
    · rw [if_neg c]
      have : decide (n > 500) = decide (n < 2 ∨ 500 < n) := decide_eq_decide.2 (by omega)
      rw [this]
  unfold net_Check.f
  by_cases c0 : n < 2 ∨ 500 < n
  · refine ⟨3, by rw [if_pos c0], Ev.congr h0 (Ev.step (f := fun _ => some 3) (fun k => ?_) (Ev.now _))⟩
    rw [decide_eq_true c0]
    simp only [racewayref3_Check.j0]
    rw [if_pos (by trivial)]
  · rw [if_neg c0]
    rw [decide_eq_false c0] at h0
    have h1 : ∀ k, racewayref3_Check.j0 (k + 1) false n s t l = racewayref3_Check.j1 k (decide (¬ (1 ≤ s ∧ s ≤ n ∧ 1 ≤ t ∧ t ≤ n))) n s t l := fun k => by
      simp only [racewayref3_Check.j0]
      rw [if_neg (by decide)]
      by_cases c1 : s < 1
      · rw [if_pos c1, decide_eq_true (by omega)]
      · rw [if_neg c1]
        by_cases c2 : s > n
        · rw [if_pos c2, decide_eq_true (by omega)]
        · rw [if_neg c2]
          by_cases c3 : t < 1
          · rw [if_pos c3, decide_eq_true (by omega)]
          · rw [if_neg c3]
            have : decide (t > n) = decide (¬ (1 ≤ s ∧ s ≤ n ∧ 1 ≤ t ∧ t ≤ n)) := decide_eq_decide.2 (by omega)
            rw [this]
    by_cases c1 : 1 ≤ s ∧ s ≤ n ∧ 1 ≤ t ∧ t ≤ n
    · rw [if_neg (fun h => h c1)]
      rw [decide_eq_false (fun h => h c1)] at h1
      by_cases c2 : s = t
      · refine ⟨5, by rw [if_pos c2], Ev.congr h0 (Ev.step h1 (Ev.step (f := fun _ => some 5) (fun k => ?_) (Ev.now _)))⟩
        simp only [racewayref3_Check.j1]
        rw [if_neg (by decide), if_pos c2]
      · rw [if_neg c2]
        by_cases c3 : 2000 < l.length
        · refine ⟨6, by rw [if_pos c3], Ev.congr h0 (Ev.step h1 (Ev.step (f := fun _ => some 6) (fun k => ?_) (Ev.now _)))⟩
          simp only [racewayref3_Check.j1]
          rw [if_neg (by decide), if_neg c2, if_pos (by omega)]
        · rw [if_neg c3]
          obtain ⟨e, he, hE⟩ := ref3_loop (n := n) (s := s) (t := t) hw (by omega) l.length 0 0 (by omega) (by decide) (by decide)
          refine ⟨e, he, Ev.congr h0 (Ev.step h1 (Ev.step (fun k => ?_) hE))⟩
          simp only [racewayref3_Check.j1]
          rw [if_neg (by decide), if_neg c2, if_neg (by omega)]
          rfl
    · rw [if_pos c1]
      refine ⟨4, rfl, Ev.congr h0 (Ev.step h1 (Ev.step (f := fun _ => some 4) (fun k => ?_) (Ev.now _)))⟩
      rw [decide_eq_true c1]
      simp only [racewayref3_Check.j1]
      rw [if_pos (by trivial)]
theorem w5_loop {n s t : Int} {l : List S49} {f : List Int} (W : Within l f) (hl : l.length ≤ 2000) (d : Nat) : ∀ i : Nat, i + d = f.length → Ev (fun k => racewayref5_within.l0 k f (i : Int) n s t l) 0 := by
  have hlen := W.len
  induction d with
  | zero =>
    intro i hi
    refine Ev.step (f := fun _ => some 0) (fun k => ?_) (Ev.now _)
    simp only [racewayref5_within.l0]
    rw [if_neg (by omega)]
  | succ d ih =>
    intro i hi
    have hif : i < f.length := by omega
    have hil : i < l.length := by omega
    have hb := W.get i hil hif
    refine Ev.step (fun k => ?_) (ih (i + 1) (by omega))
    simp only [racewayref5_within.l0]
    rw [if_pos (by omega), if_pos (by omega), rd_get hif, rdT_get hil, if_neg (by omega), if_pos (by omega), if_neg (by omega), wrap_id (by omega) (by omega)]
    rfl
theorem w5_bad {n s t : Int} {l : List S49} {f : List Int} (hlen : f.length = l.length) (hl : l.length ≤ 2000) (d : Nat) : ∀ i : Nat, i + d = f.length → (∃ j, i ≤ j ∧ ∃ (h : j < l.length) (h' : j < f.length), ¬ (0 ≤ f[j] ∧ f[j] ≤ (l[j]).f2)) →
    Ev (fun k => racewayref5_within.l0 k f (i : Int) n s t l) 3 := by
  induction d with
  | zero =>
    intro i hi ⟨j, h1, h2, h3, _⟩
    omega
  | succ d ih =>
    intro i hi ⟨j, h1, h2, h3, h4⟩
    have hif : i < f.length := by omega
    have hil : i < l.length := by omega
    by_cases c0 : f[i] < 0
    · refine Ev.step (f := fun _ => some 3) (fun k => ?_) (Ev.now _)
      simp only [racewayref5_within.l0]
      rw [if_pos (by omega), if_pos (by omega), rd_get hif, if_pos c0]
    · by_cases c1 : f[i] > (l[i]).f2
      · refine Ev.step (f := fun _ => some 3) (fun k => ?_) (Ev.now _)
        simp only [racewayref5_within.l0]
        rw [if_pos (by omega), if_pos (by omega), rd_get hif, rdT_get hil, if_neg c0, if_pos (by omega), if_pos c1]
      · have hne : i ≠ j := by
          rintro rfl
          exact h4 ⟨by omega, by omega⟩
        refine Ev.step (fun k => ?_) (ih (i + 1) (by omega) ⟨j, by omega, h2, h3, h4⟩)
        simp only [racewayref5_within.l0]
        rw [if_pos (by omega), if_pos (by omega), rd_get hif, rdT_get hil, if_neg c0, if_pos (by omega), if_neg c1, wrap_id (by omega) (by omega)]
        rfl
theorem w5_yes {n s t : Int} {l : List S49} {f : List Int} (R : Right n s t l) (hr : Ev (fun k => racewayref3_Check.f k n s t l) 0) (W : Within l f) : Ev (fun k => racewayref5_within.f k n s t l f) 0 := by
  have hlen := W.len
  unfold racewayref5_within.f
  refine Ev.bind hr ?_
  simp only [if_true]
  refine Ev.congr (fun k => ?_) (w5_loop (n := n) (s := s) (t := t) W R.len f.length 0 (by omega))
  rw [if_pos (by omega)]
  rfl
theorem w5_no {n s t : Int} {l : List S49} {f : List Int} (R : Right n s t l) (hr : Ev (fun k => racewayref3_Check.f k n s t l) 0) (hlen : f.length = l.length) (W : ¬ Within l f) : Ev (fun k => racewayref5_within.f k n s t l f) 3 := by
  have hex : ∃ j, 0 ≤ j ∧ ∃ (h : j < l.length) (h' : j < f.length), ¬ (0 ≤ f[j] ∧ f[j] ≤ (l[j]).f2) := by
    apply Classical.byContradiction
    intro hn
    refine W (Within.of hlen fun i h h' => ?_)
    apply Classical.byContradiction
    intro hb
    exact hn ⟨i, Nat.zero_le _, h, h', hb⟩
  unfold racewayref5_within.f
  refine Ev.bind hr ?_
  simp only [if_true]
  refine Ev.congr (fun k => ?_) (w5_bad (n := n) (s := s) (t := t) hlen R.len f.length 0 (by omega) hex)
  rw [if_pos (by omega)]
  rfl
theorem w5_count {n s t : Int} {l : List S49} {f : List Int} (hr : Ev (fun k => racewayref3_Check.f k n s t l) 0) (hlen : f.length ≠ l.length) : Ev (fun k => racewayref5_within.f k n s t l f) 6 := by
  unfold racewayref5_within.f
  refine Ev.bind hr ?_
  simp only [if_true]
  refine Ev.congr (f := fun _ => some 6) (fun k => ?_) (Ev.now _)
  rw [if_neg (by omega)]
theorem exc5_loop {n s t v : Int} {l : List S49} {f : List Int} (hf : ∀ x ∈ f, 0 ≤ x) (hlen : f.length = l.length) (hS : sumL f ≤ 4611686018427387903) (hl : l.length ≤ 2000) (d : Nat) :
    ∀ (i : Nat) (acc : Int), i + d = l.length → -(sumL f - sumL (f.drop i)) ≤ acc → acc ≤ sumL f - sumL (f.drop i) →
      Ev (fun k => racewayref5_excess.l0 k f v acc (i : Int) n s t l) (acc + exc (l.drop i) (f.drop i) v) := by
  induction d with
  | zero =>
    intro i acc hi _ _
    refine Ev.step (f := fun _ => some (acc + exc (l.drop i) (f.drop i) v)) (fun k => ?_) (Ev.now _)
    simp only [racewayref5_excess.l0]
    rw [if_neg (by omega), List.drop_of_length_le (show l.length ≤ i by omega), exc_nil, Int.add_zero]
  | succ d ih =>
    intro i acc hi b0 b1
    have hil : i < l.length := by omega
    have hif : i < f.length := by omega
    have hx0 := hf f[i] (List.getElem_mem hif)
    have hsd := sumL_drop hif
    have hsn := sumL_nonneg (g := f.drop (i + 1)) (fun x hx => hf x (List.mem_of_mem_drop hx))
    have hw : wrap64 ((i : Int) + 1) = ((i + 1 : Nat) : Int) := wrap_id (by omega) (by omega)
    rw [List.drop_eq_getElem_cons hil, List.drop_eq_getElem_cons hif]
    simp only [exc]
    by_cases c1 : (l[i]).f1 = v
    · have e1 : wrap64 (acc + f[i]) = acc + f[i] := wrap_id (by omega) (by omega)
      by_cases c0 : (l[i]).f0 = v
      · have e2 : wrap64 (acc + f[i] - f[i]) = acc := by rw [show acc + f[i] - f[i] = acc by omega]; exact wrap_id (by omega) (by omega)
        have h := ih (i + 1) acc (by omega) (by omega) (by omega)
        rw [if_pos c1, if_pos c0, show acc + (f[i] - f[i] + exc (l.drop (i + 1)) (f.drop (i + 1)) v) = acc + exc (l.drop (i + 1)) (f.drop (i + 1)) v by omega]
        refine Ev.step (fun k => ?_) h
        simp only [racewayref5_excess.l0]
        rw [if_pos (by omega), if_pos (by omega), rdT_get hil, rd_get hif, if_pos c1, if_pos (by omega), if_pos c0, e1, e2, hw]
      · have h := ih (i + 1) (acc + f[i]) (by omega) (by omega) (by omega)
        rw [if_pos c1, if_neg c0, show acc + (f[i] - 0 + exc (l.drop (i + 1)) (f.drop (i + 1)) v) = acc + f[i] + exc (l.drop (i + 1)) (f.drop (i + 1)) v by omega]
        refine Ev.step (fun k => ?_) h
        simp only [racewayref5_excess.l0]
        rw [if_pos (by omega), if_pos (by omega), rdT_get hil, rd_get hif, if_pos c1, if_pos (by omega), if_neg c0, e1, hw]
    · by_cases c0 : (l[i]).f0 = v
      · have e1 : wrap64 (acc - f[i]) = acc - f[i] := wrap_id (by omega) (by omega)
        have h := ih (i + 1) (acc - f[i]) (by omega) (by omega) (by omega)
        rw [if_neg c1, if_pos c0, show acc + (0 - f[i] + exc (l.drop (i + 1)) (f.drop (i + 1)) v) = acc - f[i] + exc (l.drop (i + 1)) (f.drop (i + 1)) v by omega]
        refine Ev.step (fun k => ?_) h
        simp only [racewayref5_excess.l0]
        rw [if_pos (by omega), if_pos (by omega), rdT_get hil, rd_get hif, if_neg c1, if_pos c0, if_pos (by omega), e1, hw]
      · have h := ih (i + 1) acc (by omega) (by omega) (by omega)
        rw [if_neg c1, if_neg c0, show acc + (0 - 0 + exc (l.drop (i + 1)) (f.drop (i + 1)) v) = acc + exc (l.drop (i + 1)) (f.drop (i + 1)) v by omega]
        refine Ev.step (fun k => ?_) h
        simp only [racewayref5_excess.l0]
        rw [if_pos (by omega), if_pos (by omega), rdT_get hil, if_neg c1, if_neg c0, hw]
theorem exc5_ev {n s t v : Int} {l : List S49} {f : List Int} (R : Right n s t l) (W : Within l f) : Ev (fun k => racewayref5_excess.f k n s t l f v) (exc l f v) := by
  have hs := W.sum
  have hR := R.sum
  have h := exc5_loop (n := n) (s := s) (t := t) (v := v) W.nonneg W.len (by omega) R.len l.length 0 0 (by omega) (by rw [List.drop_zero]; omega) (by rw [List.drop_zero]; omega)
  rw [List.drop_zero, List.drop_zero, Int.zero_add] at h
  exact h
theorem c5_loop {n s t : Int} {l : List S49} {f : List Int} (R : Right n s t l) (W : Within l f) (d : Nat) : ∀ i : Nat, (i : Int) + d = n → (∀ v, (i : Int) < v → v ≤ n → v ≠ s → v ≠ t → exc l f v = 0) →
    Ev (fun k => racewayref5_Check.l0 k f ((i : Int) + 1) n s t l) 0 := by
  have hn := R.n500
  induction d with
  | zero =>
    intro i hi _
    refine Ev.step (f := fun _ => some 0) (fun k => ?_) (Ev.now _)
    simp only [racewayref5_Check.l0]
    rw [if_neg (by omega)]
  | succ d ih =>
    intro i hi hz
    have hnext := ih (i + 1) (by omega) (fun v h1 h2 h3 h4 => hz v (by omega) h2 h3 h4)
    have hw : wrap64 ((i : Int) + 1 + 1) = ((i + 1 : Nat) : Int) + 1 := wrap_id (by omega) (by omega)
    by_cases c1 : (i : Int) + 1 = s
    · refine Ev.step (fun k => ?_) hnext
      simp only [racewayref5_Check.l0]
      rw [if_pos (by omega), if_pos c1, hw]
    · by_cases c2 : (i : Int) + 1 = t
      · refine Ev.step (fun k => ?_) hnext
        simp only [racewayref5_Check.l0]
        rw [if_pos (by omega), if_neg c1, if_pos c2, hw]
      · refine Ev.step (f := ?g) (fun k => ?h) ?e
        case h =>
          simp only [racewayref5_Check.l0]
          rw [if_pos (by omega), if_neg c1, if_neg c2, hw]
        case e =>
          refine Ev.bind (exc5_ev R W) ?_
          exact Ev.congr (fun k => if_pos (hz _ (by omega) (by omega) c1 c2)) hnext
theorem c5_bad {n s t : Int} {l : List S49} {f : List Int} (R : Right n s t l) (W : Within l f) (d : Nat) : ∀ i : Nat, (i : Int) + d = n → (∃ v, (i : Int) < v ∧ v ≤ n ∧ v ≠ s ∧ v ≠ t ∧ exc l f v ≠ 0) →
    Ev (fun k => racewayref5_Check.l0 k f ((i : Int) + 1) n s t l) 9 := by
  have hn := R.n500
  induction d with
  | zero => intro i hi ⟨v, h1, h2, _⟩; omega
  | succ d ih =>
    intro i hi ⟨v, h1, h2, h3, h4, h5⟩
    have hw : wrap64 ((i : Int) + 1 + 1) = ((i + 1 : Nat) : Int) + 1 := wrap_id (by omega) (by omega)
    by_cases c1 : (i : Int) + 1 = s
    · refine Ev.step (fun k => ?_) (ih (i + 1) (by omega) ⟨v, by omega, h2, h3, h4, h5⟩)
      simp only [racewayref5_Check.l0]
      rw [if_pos (by omega), if_pos c1, hw]
    · by_cases c2 : (i : Int) + 1 = t
      · refine Ev.step (fun k => ?_) (ih (i + 1) (by omega) ⟨v, by omega, h2, h3, h4, h5⟩)
        simp only [racewayref5_Check.l0]
        rw [if_pos (by omega), if_neg c1, if_pos c2, hw]
      · refine Ev.step (f := ?g2) (fun k => ?h2) ?e2
        case h2 =>
          simp only [racewayref5_Check.l0]
          rw [if_pos (by omega), if_neg c1, if_neg c2, hw]
        case e2 =>
          refine Ev.bind (exc5_ev R W) ?_
          by_cases c3 : exc l f ((i : Int) + 1) = 0
          · refine Ev.congr (fun k => if_pos c3) ?_
            exact ih (i + 1) (by omega) ⟨v, by
              by_cases e : v = (i : Int) + 1
              · rw [e] at h5; exact absurd c3 h5
              · omega, h2, h3, h4, h5⟩
          · exact Ev.congr (fun k => if_neg c3) (Ev.now _)
theorem c5_flow {n s t : Int} {l : List S49} {f : List Int} (R : Right n s t l) (hr : Ev (fun k => racewayref3_Check.f k n s t l) 0) (F : IsFlow n s t l f) : Ev (fun k => racewayref5_Check.f k n s t l f) 0 := by
  have hn := R.n2
  unfold racewayref5_Check.f
  refine Ev.bind (w5_yes R hr F.within) ?_
  simp only [if_true]
  exact c5_loop R F.within n.toNat 0 (by omega) (fun v h1 h2 h3 h4 => F.cons v (by omega) h2 h3 h4)
/-- Both checks tell the same; what they let through is a flow of a right network. -/
theorem check_both {n s t : Int} {l : List S49} {f : List Int} (hw : ∀ a ∈ l, -9223372036854775808 ≤ a.f2 ∧ a.f2 ≤ 9223372036854775807) :
    (∃ e, e ≠ 0 ∧ Ev (fun k => flow_Check.f k n s t l f) e ∧ Ev (fun k => racewayref5_Check.f k n s t l f) e) ∨ Right n s t l ∧ IsFlow n s t l f ∧ Ev (fun k => racewayref5_Check.f k n s t l f) 0 := by
  obtain ⟨e, he, hE⟩ := ref3_ev (n := n) (s := s) (t := t) hw
  by_cases c : e = 0
  · subst c
    have R := right_of he
    have hn := R.n2
    by_cases hlen : f.length = l.length
    · by_cases W : Within l f
      · by_cases hx : ∃ v, 1 ≤ v ∧ v ≤ n ∧ v ≠ s ∧ v ≠ t ∧ exc l f v ≠ 0
        · obtain ⟨v, v1, vn, vs, vt, hv⟩ := hx
          refine .inl ⟨9, by decide, check_state R W v1 vn vs vt hv, ?_⟩
          unfold racewayref5_Check.f
          refine Ev.bind (w5_yes R hE W) ?_
          simp only [if_true]
          exact c5_bad R W n.toNat 0 (by omega) ⟨v, by omega, vn, vs, vt, hv⟩
        · have F : IsFlow n s t l f := ⟨W, fun v v1 vn vs vt => by
            apply Classical.byContradiction
            intro h
            exact hx ⟨v, v1, vn, vs, vt, h⟩⟩
          exact .inr ⟨R, F, c5_flow R hE F⟩
      · refine .inl ⟨3, by decide, check_range R hlen W, ?_⟩
        unfold racewayref5_Check.f
        refine Ev.bind (w5_no R hE hlen W) ?_
        exact Ev.congr (fun k => if_neg (by decide)) (Ev.now 3)
    · refine .inl ⟨6, by decide, ?_, ?_⟩
      · unfold flow_Check.f
        refine Ev.bind (within_count R hlen) ?_
        exact Ev.congr (fun k => if_neg (by decide)) (Ev.now 6)
      · unfold racewayref5_Check.f
        refine Ev.bind (w5_count hE hlen) ?_
        exact Ev.congr (fun k => if_neg (by decide)) (Ev.now 6)
  · refine .inl ⟨e, c, ?_, ?_⟩
    · unfold flow_Check.f flow_within.f
      rw [he]
      simp only [Option.bind_some]
      refine Ev.congr (f := fun _ => some e) (fun k => ?_) (Ev.now _)
      rw [if_neg c]
      simp only [Option.bind_some]
      rw [if_neg c]
    · unfold racewayref5_Check.f racewayref5_within.f
      refine Ev.bind (a := e) ?_ ?_
      · refine Ev.bind hE ?_
        refine Ev.congr (f := fun _ => some e) (fun k => ?_) (Ev.now _)
        exact if_neg c
      · exact Ev.congr (fun k => if_neg c) (Ev.now e)
/-! The document's room and ends of tracks. -/
theorem room_err {n s t e : Int} {l : List S49} {f : List Int} (he : e ≠ 0) (h : Ev (fun k => flow_Check.f k n s t l f) e) : Ev (fun k => residual_Room.f k n s t l f) ([], e) := by
  unfold residual_Room.f
  refine Ev.bind h ?_
  exact Ev.congr (fun k => if_neg he) (Ev.now _)
theorem room6_loop {n s t : Int} {l : List S49} {f : List Int} (hlen : f.length = l.length) (hl : l.length ≤ 2000) (d : Nat) :
    ∀ (i : Nat) (out : List Int), i + d = l.length → out.length ≤ 2 * i → Ev (fun k => racewayref6_Room.l0 k f out (i : Int) n s t l) (out ++ roomOf (l.drop i) (f.drop i), 0) := by
  induction d with
  | zero =>
    intro i out hi _
    refine Ev.step (f := fun _ => some (out ++ roomOf (l.drop i) (f.drop i), 0)) (fun k => ?_) (Ev.now _)
    simp only [racewayref6_Room.l0]
    rw [if_neg (by omega), List.drop_of_length_le (show l.length ≤ i by omega)]
    simp only [roomOf, List.append_nil]
  | succ d ih =>
    intro i out hi ho
    have hil : i < l.length := by omega
    have hif : i < f.length := by omega
    have h := ih (i + 1) (out ++ [wrap64 ((l[i]).f2 - f[i])] ++ [f[i]]) (by omega) (by simp; omega)
    have e : out ++ roomOf (l.drop i) (f.drop i) = out ++ [wrap64 ((l[i]).f2 - f[i])] ++ [f[i]] ++ roomOf (l.drop (i + 1)) (f.drop (i + 1)) := by
      rw [List.drop_eq_getElem_cons hil, List.drop_eq_getElem_cons hif]
      simp only [roomOf, List.append_assoc, List.cons_append, List.nil_append]
    rw [e]
    refine Ev.step (fun k => ?_) h
    simp only [racewayref6_Room.l0]
    rw [if_pos (by omega), if_pos (by omega), if_pos (by omega), if_pos (by omega), rdT_get hil, rd_get hif]
    simp only [Option.bind_some]
    rw [if_pos (by simp; omega), wrap_id (x := (i : Int) + 1) (by omega) (by omega)]
    rfl
theorem room6_ev {n s t : Int} {l : List S49} {f : List Int} (R : Right n s t l) (F : IsFlow n s t l f) (h : Ev (fun k => racewayref5_Check.f k n s t l f) 0) : Ev (fun k => racewayref6_Room.f k n s t l f) (roomOf l f, 0) := by
  unfold racewayref6_Room.f
  refine Ev.bind h ?_
  simp only [if_true]
  have h := room6_loop (n := n) (s := s) (t := t) F.within.len R.len l.length 0 [] (by omega) (by simp)
  rw [List.drop_zero, List.drop_zero, List.nil_append] at h
  exact h
theorem room6_err {n s t e : Int} {l : List S49} {f : List Int} (he : e ≠ 0) (h : Ev (fun k => racewayref5_Check.f k n s t l f) e) : Ev (fun k => racewayref6_Room.f k n s t l f) ([], e) := by
  unfold racewayref6_Room.f
  refine Ev.bind h ?_
  exact Ev.congr (fun k => if_neg he) (Ev.now _)
theorem ends6_ev {n s t r : Int} {l : List S49} (h : InR l r) (hl : l.length ≤ 2000) : Ev (fun k => racewayref6_Ends.f k n s t l r) (fromOf l r, toOf l r) := by
  obtain ⟨h0, h1⟩ := h
  have hd : wrap64 (Int.tdiv r 2) = r / 2 := by rw [tdiv2 h0, wrap_id (by omega) (by omega)]
  have hm : Int.tmod r 2 = r % 2 := Int.tmod_eq_emod_of_nonneg h0
  have e : Ev (fun k => racewayref6_Ends.j0 k r (decide (r ≥ wrap64 (2 * (l.length : Int)))) n s t l) (fromOf l r, toOf l r) := by
    refine Ev.step (f := fun _ => some (fromOf l r, toOf l r)) (fun k => ?_) (Ev.now _)
    rw [wrap_id (x := 2 * (l.length : Int)) (by omega) (by omega), decide_eq_false (by omega)]
    simp only [racewayref6_Ends.j0, hd, hm]
    rw [if_neg (by decide), if_pos (by omega), if_pos (by omega)]
    unfold fromOf toOf
    by_cases c : r % 2 = 1
    · rw [if_pos c, if_pos c, if_pos c]
    · rw [if_neg c, if_neg c, if_neg c]
  refine Ev.congr (fun k => ?_) e
  unfold racewayref6_Ends.f
  rw [if_neg (by omega)]
/-! The document's search, step by step until nothing is new. -/
section
variable {n s t least : Int} {l : List S49} {room : List Int}
structure SInv (n s : Int) (l : List S49) (room : List Int) (least : Int) (met : List Bool) : Prop where
  len : (met.length : Int) = n + 1
  src : rdOf false met s = true
  min : ∀ P : Int → Prop, P s → (∀ r, InR l r → least ≤ rd room r → P (fromOf l r) → P (toOf l r)) → ∀ v, 0 ≤ v → v ≤ n → rdOf false met v = true → P v
theorem rdB_get {m : List Bool} {v : Int} (h0 : 0 ≤ v) (h1 : v < (m.length : Int)) (h : v.toNat < m.length) : m[v.toNat] = rdOf false m v := by
  unfold rdOf
  rw [List.getD_eq_getElem?_getD, List.getElem?_eq_getElem h]; rfl
theorem scan6 (hg : ∀ a ∈ l, GoodArc n a) (hl : l.length ≤ 2000) (hroom : room.length = 2 * l.length) (hs : 0 ≤ s) (d : Nat) :
    ∀ (i : Nat) (m : List Bool) (b : Bool), i + d = room.length → SInv n s l room least m →
      ∃ m' b', (∀ e, Ev (fun k => racewayref6_Reach.l0 k least room m' b' n s t l) e → Ev (fun k => racewayref6_Reach.l1 k least room m b (i : Int) n s t l) e) ∧ SInv n s l room least m' ∧ cntB m' ≤ cntB m ∧
        (b' = true → b = true ∨ cntB m' < cntB m) ∧ (b = true → b' = true) ∧
        (b' = false → m' = m ∧ ∀ r, (i : Int) ≤ r → InR l r → least ≤ rd room r → rdOf false m (fromOf l r) = true → rdOf false m (toOf l r) = true) := by
  induction d with
  | zero =>
    intro i m b hi I
    refine ⟨m, b, fun e he => Ev.step (fun k => ?_) he, I, Nat.le_refl _, fun h => .inl h, fun h => h, fun _ => ⟨rfl, fun r h0 h1 => by have := h1.2; omega⟩⟩
    simp only [racewayref6_Reach.l1]
    rw [if_neg (by omega)]
  | succ d ih =>
    intro i m b hi I
    have hr : InR l (i : Int) := ⟨by omega, by omega⟩
    obtain ⟨f1, fn, t1, tn⟩ := ends_range hg hr
    have hlen := I.len
    have hw : wrap64 ((i : Int) + 1) = ((i + 1 : Nat) : Int) := wrap_succ (by omega)
    by_cases c : least ≤ rd room (i : Int) ∧ rdOf false m (fromOf l (i : Int)) = true ∧ rdOf false m (toOf l (i : Int)) = false
    · obtain ⟨ca, cb, cc⟩ := c
      have hst : ∀ v, 0 ≤ v → rdOf false (m.set (toOf l (i : Int)).toNat true) v = if toOf l (i : Int) = v then true else rdOf false m v := fun v v0 => rdB_set (by omega) (by omega) v0
      have hlt : (toOf l (i : Int)).toNat < m.length := by omega
      have hcnt := cntB_set hlt (by rw [rdB_get (by omega) (by omega) hlt]; exact cc)
      have I2 : SInv n s l room least (m.set (toOf l (i : Int)).toNat true) := by
        refine ⟨by rw [List.length_set]; exact hlen, ?_, fun P hP hc v v0 vn h => ?_⟩
        · rw [hst s hs]
          split
          · rfl
          · exact I.src
        · rw [hst v v0] at h
          by_cases e : toOf l (i : Int) = v
          · rw [← e]
            exact hc _ hr ca (I.min P hP hc _ (by omega) fn cb)
          · rw [if_neg e] at h
            exact I.min P hP hc v v0 vn h
      obtain ⟨m', b', h1, h2, h3, h4, h5, h6⟩ := ih (i + 1) (m.set (toOf l (i : Int)).toNat true) true (by omega) I2
      have hb := h5 rfl
      refine ⟨m', b', fun e he => ?_, h2, by omega, fun _ => .inr (by omega), fun _ => hb, fun h => by rw [hb] at h; cases h⟩
      refine Ev.step (f := ?g) (fun k => ?h) ?e
      case h =>
        simp only [racewayref6_Reach.l1]
        rw [if_pos (by omega)]
      case e =>
        refine Ev.bind (ends6_ev hr hl) ?_
        refine Ev.congr (fun k => ?_) (h1 e he)
        simp only
        rw [if_pos (by omega), if_pos ca, if_pos (by omega), if_pos (by omega), if_pos cb, if_pos (by omega), if_pos (by omega), if_neg (by rw [cc]; decide), hw]
    · obtain ⟨m', b', h1, h2, h3, h4, h5, h6⟩ := ih (i + 1) m b (by omega) I
      refine ⟨m', b', fun e he => ?_, h2, h3, h4, h5, fun h => ⟨(h6 h).1, fun r r0 rr hroom hf => ?_⟩⟩
      · refine Ev.step (f := ?g2) (fun k => ?h2) ?e2
        case h2 =>
          simp only [racewayref6_Reach.l1]
          rw [if_pos (by omega)]
        case e2 =>
          refine Ev.bind (ends6_ev hr hl) ?_
          refine Ev.congr (fun k => ?_) (h1 e he)
          simp only
          rw [if_pos (by omega), hw]
          by_cases c1 : least ≤ rd room (i : Int)
          · rw [if_pos c1, if_pos (by omega), if_pos (by omega)]
            by_cases c2 : rdOf false m (fromOf l (i : Int)) = true
            · rw [if_pos c2, if_pos (by omega), if_pos (by omega), if_pos (by
                cases h : rdOf false m (toOf l (i : Int)) with
                | true => rfl
                | false => exact absurd ⟨c1, c2, h⟩ c)]
            · rw [if_neg c2]
          · rw [if_neg c1]
      · by_cases e : r = (i : Int)
        · subst e
          cases h : rdOf false m (toOf l (i : Int)) with
          | true => rfl
          | false => exact absurd ⟨hroom, hf, h⟩ c
        · exact (h6 h).2 r (by omega) rr hroom hf
theorem search6 (hg : ∀ a ∈ l, GoodArc n a) (hl : l.length ≤ 2000) (hroom : room.length = 2 * l.length) (hs : 0 ≤ s) (d : Nat) :
    ∀ m : List Bool, cntB m ≤ d → SInv n s l room least m → ∃ m', Ev (fun k => racewayref6_Reach.l0 k least room m true n s t l) (m', 0) ∧ IsMet n s l room least m' := by
  induction d with
  | zero =>
    intro m hd I
    obtain ⟨m', b', h1, h2, h3, h4, h5, h6⟩ := scan6 (t := t) hg hl hroom hs room.length 0 m false (by omega) I
    cases b' with
    | true =>
      rcases h4 rfl with h | h
      · cases h
      · omega
    | false =>
      obtain ⟨rfl, h7⟩ := h6 rfl
      refine ⟨m', ?_, ⟨I.len, I.src, fun r hr => h7 r (by have := hr.1; omega) hr, I.min⟩⟩
      refine Ev.step (fun k => ?_) (h1 (m', 0) (Ev.step (f := fun _ => some (m', 0)) (fun k => ?_) (Ev.now _)))
      · simp only [racewayref6_Reach.l0]
        rw [if_pos (by trivial)]
        rfl
      · simp only [racewayref6_Reach.l0]
        rw [if_neg (by decide)]
  | succ d ih =>
    intro m hd I
    obtain ⟨m', b', h1, h2, h3, h4, h5, h6⟩ := scan6 (t := t) hg hl hroom hs room.length 0 m false (by omega) I
    cases b' with
    | true =>
      have hlt : cntB m' < cntB m := by
        rcases h4 rfl with h | h
        · cases h
        · exact h
      obtain ⟨q, hq, hQ⟩ := ih m' (by omega) h2
      refine ⟨q, Ev.step (fun k => ?_) (h1 _ hq), hQ⟩
      simp only [racewayref6_Reach.l0]
      rw [if_pos (by trivial)]
      rfl
    | false =>
      obtain ⟨rfl, h7⟩ := h6 rfl
      refine ⟨m', ?_, ⟨I.len, I.src, fun r hr => h7 r (by have := hr.1; omega) hr, I.min⟩⟩
      refine Ev.step (fun k => ?_) (h1 (m', 0) (Ev.step (f := fun _ => some (m', 0)) (fun k => ?_) (Ev.now _)))
      · simp only [racewayref6_Reach.l0]
        rw [if_pos (by trivial)]
        rfl
      · simp only [racewayref6_Reach.l0]
        rw [if_neg (by decide)]
theorem reach6_ev {f : List Int} (R : Right n s t l) (F : IsFlow n s t l f) (h : Ev (fun k => racewayref5_Check.f k n s t l f) 0) (hl : 1 ≤ least) :
    ∃ met, Ev (fun k => racewayref6_Reach.f k n s t l f least) (met, 0) ∧ IsMet n s l (roomOf l f) least met := by
  have h1 := R.n2
  have h2 := R.n500
  have h3 := R.s1
  have h4 := R.sn
  have hlen : (roomOf l f).length = 2 * l.length := roomOf_len F.1.len
  have hrl : (List.replicate (n + 1).toNat false).length = (n + 1).toNat := List.length_replicate
  have hrep : ∀ v, 0 ≤ v → v ≤ n → rdOf false (List.replicate (n + 1).toNat false) v = false := fun v v0 vn => by
    have : v.toNat < (n + 1).toNat := by omega
    simp [rdOf, this]
  have hrs : ∀ v, 0 ≤ v → rdOf false ((List.replicate (n + 1).toNat false).set s.toNat true) v = if s = v then true else rdOf false (List.replicate (n + 1).toNat false) v := fun v v0 => rdB_set (by omega) (by omega) v0
  have I : SInv n s l (roomOf l f) least ((List.replicate (n + 1).toNat false).set s.toNat true) := by
    refine ⟨by rw [List.length_set, hrl]; omega, by rw [hrs s (by omega), if_pos rfl], fun P hP _ v v0 vn hv => ?_⟩
    rw [hrs v v0] at hv
    by_cases c : s = v
    · rw [← c]; exact hP
    · rw [if_neg c, hrep v v0 vn] at hv
      cases hv
  obtain ⟨m, hm, hM⟩ := search6 (t := t) R.arcs R.len hlen (by omega) _ _ (Nat.le_refl _) I
  refine ⟨m, ?_, hM⟩
  unfold racewayref6_Reach.f
  refine Ev.bind (room6_ev R F h) ?_
  simp only [if_true]
  refine Ev.congr (fun k => ?_) hm
  rw [if_neg (by omega), wrap_id (x := n + 1) (by omega) (by omega), if_pos (by omega), if_pos (by omega)]
  simp only [Option.bind_some]
  rw [if_pos (by omega), if_pos (by omega)]
theorem reach6_err {f : List Int} {e : Int} (he : e ≠ 0) (h : Ev (fun k => racewayref5_Check.f k n s t l f) e) : Ev (fun k => racewayref6_Reach.f k n s t l f least) ([], e) := by
  unfold racewayref6_Reach.f
  refine Ev.bind (room6_err he h) ?_
  exact Ev.congr (fun k => if_neg he) (Ev.now _)
theorem reach6_low {f : List Int} (R : Right n s t l) (F : IsFlow n s t l f) (h : Ev (fun k => racewayref5_Check.f k n s t l f) 0) (hl : least < 1) : Ev (fun k => racewayref6_Reach.f k n s t l f least) ([], 3) := by
  unfold racewayref6_Reach.f
  refine Ev.bind (room6_ev R F h) ?_
  simp only [if_true]
  exact Ev.congr (fun k => if_pos hl) (Ev.now _)
end
theorem shown_ev : Ev (fun k => racewaylaw6_shown.f k) true := by
  have R : Right 2 1 2 [(⟨1, 2, 5⟩ : S49)] := ⟨by omega, by omega, by omega, by omega, by omega, by omega, by omega, by simp, fun a ha => by
    obtain rfl := List.mem_singleton.1 ha
    exact ⟨by decide, by decide, by decide, by decide, by decide⟩, by decide⟩
  have F : IsFlow 2 1 2 [(⟨1, 2, 5⟩ : S49)] [3] := ⟨⟨by decide, by decide, trivial⟩, fun v h1 h2 h3 h4 => by omega⟩
  unfold racewaylaw6_shown.f
  have hroom : Ev (fun k => residual_Room.f k 2 1 2 [(⟨1, 2, 5⟩ : S49)] [3]) ([2, 3], 0) := by
    unfold residual_Room.f
    refine Ev.bind (check_flow R F) ?_
    exact Ev.congr (fun k => by simp [roomOf, wrap64]) (Ev.now ([2, 3], 0))
  refine Ev.bind hroom ?_
  exact Ev.congr (fun k => by simp [rd]) (Ev.now true)
theorem same_loop {a b : List Int} (hl : a.length = b.length) (hm : a.length ≤ 1000000) (d : Nat) : ∀ i : Nat, i + d = a.length → Ev (fun k => racewayref5_Same.l0 k a b (i : Int)) (decide (a.drop i = b.drop i)) := by
  induction d with
  | zero =>
    intro i hi
    refine Ev.step (f := fun _ => some (decide (a.drop i = b.drop i))) (fun k => ?_) (Ev.now _)
    simp only [racewayref5_Same.l0]
    rw [if_neg (by omega), List.drop_of_length_le (by omega), List.drop_of_length_le (by omega)]
    simp
  | succ d ih =>
    intro i hi
    have hia : i < a.length := by omega
    have hib : i < b.length := by omega
    by_cases c : a[i] = b[i]
    · have e : decide (a.drop i = b.drop i) = decide (a.drop (i + 1) = b.drop (i + 1)) := by
        have e3 : (a.drop i = b.drop i) ↔ (a.drop (i + 1) = b.drop (i + 1)) := by
          rw [List.drop_eq_getElem_cons hia, List.drop_eq_getElem_cons hib, c]
          exact ⟨fun h => (List.cons.inj h).2, fun h => by rw [h]⟩
        exact decide_eq_decide.2 e3
      rw [e]
      refine Ev.step (fun k => ?_) (ih (i + 1) (by omega))
      simp only [racewayref5_Same.l0]
      rw [if_pos (by omega), if_pos (by omega), if_pos (by omega), rd_get hia, rd_get hib, if_pos c, wrap_id (by omega) (by omega)]
      rfl
    · have e : decide (a.drop i = b.drop i) = false := by
        refine decide_eq_false (fun h => c ?_)
        rw [List.drop_eq_getElem_cons hia, List.drop_eq_getElem_cons hib] at h
        exact (List.cons.inj h).1
      rw [e]
      refine Ev.step (f := fun _ => some false) (fun k => ?_) (Ev.now _)
      simp only [racewayref5_Same.l0]
      rw [if_pos (by omega), if_pos (by omega), if_pos (by omega), rd_get hia, rd_get hib, if_neg c]
theorem same_ev (a b : List Int) (hm : a.length ≤ 1000000) : Ev (fun k => racewayref5_Same.f k a b) (decide (a = b)) := by
  by_cases hl : a.length = b.length
  · have := same_loop hl hm a.length 0 (by omega)
    rw [List.drop_zero, List.drop_zero] at this
    refine Ev.congr (fun k => ?_) this
    unfold racewayref5_Same.f
    rw [if_pos (by omega)]
    rfl
  · have e : decide (a = b) = false := decide_eq_false (fun h => hl (by rw [h]))
    rw [e]
    refine Ev.congr (fun k => ?_) (Ev.now _)
    unfold racewayref5_Same.f
    rw [if_neg (by omega)]
theorem samei_loop {a b : List Int} (hl : a.length = b.length) (hm : a.length ≤ 1000000) (d : Nat) : ∀ i : Nat, i + d = a.length → Ev (fun k => racewaylaw6_same.l0 k a b (i : Int)) (decide (a.drop i = b.drop i)) := by
  induction d with
  | zero =>
    intro i hi
    refine Ev.step (f := fun _ => some (decide (a.drop i = b.drop i))) (fun k => ?_) (Ev.now _)
    simp only [racewaylaw6_same.l0]
    rw [if_neg (by omega), List.drop_of_length_le (by omega), List.drop_of_length_le (by omega)]
    simp
  | succ d ih =>
    intro i hi
    have hia : i < a.length := by omega
    have hib : i < b.length := by omega
    by_cases c : a[i] = b[i]
    · have e : decide (a.drop i = b.drop i) = decide (a.drop (i + 1) = b.drop (i + 1)) := by
        have e3 : (a.drop i = b.drop i) ↔ (a.drop (i + 1) = b.drop (i + 1)) := by
          rw [List.drop_eq_getElem_cons hia, List.drop_eq_getElem_cons hib, c]
          exact ⟨fun h => (List.cons.inj h).2, fun h => by rw [h]⟩
        exact decide_eq_decide.2 e3
      rw [e]
      refine Ev.step (fun k => ?_) (ih (i + 1) (by omega))
      simp only [racewaylaw6_same.l0]
      rw [if_pos (by omega), if_pos (by omega), if_pos (by omega), rd_get hia, rd_get hib, if_pos c, wrap_id (by omega) (by omega)]
      rfl
    · have e : decide (a.drop i = b.drop i) = false := by
        refine decide_eq_false (fun h => c ?_)
        rw [List.drop_eq_getElem_cons hia, List.drop_eq_getElem_cons hib] at h
        exact (List.cons.inj h).1
      rw [e]
      refine Ev.step (f := fun _ => some false) (fun k => ?_) (Ev.now _)
      simp only [racewaylaw6_same.l0]
      rw [if_pos (by omega), if_pos (by omega), if_pos (by omega), rd_get hia, rd_get hib, if_neg c]
theorem samei_ev (a b : List Int) (hm : a.length ≤ 1000000) : Ev (fun k => racewaylaw6_same.f k a b) (decide (a = b)) := by
  by_cases hl : a.length = b.length
  · have := samei_loop hl hm a.length 0 (by omega)
    rw [List.drop_zero, List.drop_zero] at this
    refine Ev.congr (fun k => ?_) this
    unfold racewaylaw6_same.f
    rw [if_pos (by omega)]
    rfl
  · have e : decide (a = b) = false := decide_eq_false (fun h => hl (by rw [h]))
    rw [e]
    refine Ev.congr (fun k => ?_) (Ev.now _)
    unfold racewaylaw6_same.f
    rw [if_neg (by omega)]
end Go.Proofs.Ytbppeffcikphcaa.Pure
