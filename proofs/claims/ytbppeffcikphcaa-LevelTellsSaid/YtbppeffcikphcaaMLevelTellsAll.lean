/- Plain lists and numbers, for the law LevelTells: no program and no memory. -/
-- slimm
import Derived.Test.YtbppeffcikphcaaPLevelTellsx0
import Derived.Test.YtbppeffcikphcaaPLevelTellsx1
import Derived.Test.YtbppeffcikphcaaPLevelTellsx3
import Derived.Test.YtbppeffcikphcaaPLevelTellsx4
import Derived.Test.YtbppeffcikphcaaPLevelTellsx5
import Derived.Test.YtbppeffcikphcaaPLevelTellsx6
import Derived.Test.YtbppeffcikphcaaPLevelTellsx7
import Derived.Test.YtbppeffcikphcaaPLevelTellsx8
import Derived.Test.YtbppeffcikphcaaPLevelTellsx9
import Derived.Test.YtbppeffcikphcaaPLevelTellsx10
import Derived.Test.YtbppeffcikphcaaPLevelTellsx11
import Derived.Test.YtbppeffcikphcaaPLevelTellsx12
import Derived.Test.YtbppeffcikphcaaPLevelTellsx13
import Derived.Test.YtbppeffcikphcaaPLevelTellsx14
import Derived.Test.YtbppeffcikphcaaPLevelTellsx15
import Derived.Test.YtbppeffcikphcaaPLevelTellsx16
import Derived.Test.YtbppeffcikphcaaPLevelTellsx17
import Derived.Test.YtbppeffcikphcaaPLevelTellsx18
import Derived.Test.YtbppeffcikphcaaPLevelTellsx19
import Derived.Test.YtbppeffcikphcaaPLevelTellsx20
import Derived.Test.YtbppeffcikphcaaPLevelTellsx22
import Derived.Lib.RabinKarpLaws
set_option linter.unusedVariables false
namespace Go.Proofs.Ytbppeffcikphcaa.Pure
open Go.RowKit Go.Proofs.Ytbppeffcikphcaa.PLevelTells Go.Proofs.YtbppeffcikphcaaW.PrintWords Go.Proofs.YtbppeffcikphcaaW.PrintLast
theorem wrap_id {x : Int} (h0 : -9223372036854775808 ≤ x) (h1 : x ≤ 9223372036854775807) : wrap64 x = x := by unfold wrap64; omega
def GoodArc (n : Int) (a : S49) : Prop := 1 ≤ a.f0 ∧ a.f0 ≤ n ∧ 1 ≤ a.f1 ∧ a.f1 ≤ n ∧ 0 ≤ a.f2
def sumCap : List S49 → Int
 | [] => 0
 | a :: t => a.f2 + sumCap t
theorem sumCap_nonneg {n : Int} {l : List S49} (h : ∀ a ∈ l, GoodArc n a) : 0 ≤ sumCap l := by
 induction l with
 | nil => exact Int.le_refl 0
 | cons a t ih =>
  have h1 := ih (fun x hx => h x (List.mem_cons_of_mem _ hx))
  have h2 := (h a List.mem_cons_self).2.2.2.2
  simp only [sumCap]; omega
theorem chk_app {n : Int} : ∀ {l m : List S49} {s : Int}, (∀ a ∈ l, GoodArc n a) → 0 ≤ s → s + sumCap l ≤ 4611686018427387903 → chkArcs n (l ++ m) s = chkArcs n m (s + sumCap l)
 | [], m, s, _, _, _ => by simp [sumCap]
 | a :: t, m, s, h, hs, hM => by
  obtain ⟨g0, g1, g2, g3, g4⟩ := h a List.mem_cons_self
  have ht : ∀ x ∈ t, GoodArc n x := fun x hx => h x (List.mem_cons_of_mem _ hx)
  have hn := sumCap_nonneg ht
  simp only [sumCap] at hM
  simp only [List.cons_append, chkArcs]
  rw [if_pos ⟨by omega, by omega⟩, if_pos ⟨g0, g1, g2, g3⟩, if_neg (by omega), if_neg (by omega), chk_app ht (by omega) (by omega)]
  simp only [sumCap]
  rw [Int.add_assoc]
theorem chk_ok {n : Int} {l : List S49} {s : Int} (h : ∀ a ∈ l, GoodArc n a) (hs : 0 ≤ s) (hM : s + sumCap l ≤ 4611686018427387903) : chkArcs n l s = some 0 := by
 have := chk_app (m := []) h hs hM
 rw [List.append_nil] at this
 rw [this, chkArcs]
structure Right (n s t : Int) (l : List S49) : Prop where
 n2 : 2 ≤ n
 n500 : n ≤ 500
 s1 : 1 ≤ s
 sn : s ≤ n
 t1 : 1 ≤ t
 tn : t ≤ n
 ne : s ≠ t
 len : l.length ≤ 2000
 arcs : ∀ a ∈ l, GoodArc n a
 sum : sumCap l ≤ 4611686018427387903
theorem Right.check {n s t : Int} {l : List S49} (h : Right n s t l) : net_Check.f n s t l = some 0 := by
 unfold net_Check.f
 have h1 := h.n2
 have h2 := h.n500
 have h3 := h.s1
 have h4 := h.sn
 have h5 := h.t1
 have h6 := h.tn
 have h8 := h.len
 rw [if_neg (by omega), if_neg (fun hc => hc ⟨h3, h4, h5, h6⟩), if_neg h.ne, if_neg (by omega)]
 exact chk_ok h.arcs (Int.le_refl 0) (by have := h.sum; omega)
theorem wf_bounds {c : Int} (h : (Lit.int .i64 c).wf = true) : -9223372036854775808 ≤ c ∧ c ≤ 9223372036854775807 := by
 simp [Lit.wf] at h
 obtain ⟨h1, h2⟩ := h
 have e : IntKind.i64.min = -9223372036854775808 := by decide
 rw [e] at h1
 exact ⟨h1, h2⟩
def Within : List S49 → List Int → Prop
 | [], [] => True
 | a :: l, x :: f => 0 ≤ x ∧ x ≤ a.f2 ∧ Within l f
 | _, _ => False
def exc : List S49 → List Int → Int → Int
 | a :: l, x :: f, v => (if a.f1 = v then x else 0) - (if a.f0 = v then x else 0) + exc l f v
 | _, _, _ => 0
theorem exc_nil (f : List Int) (v : Int) : exc [] f v = 0 := by cases f <;> rfl
def sumL : List Int → Int
 | [] => 0
 | x :: f => x + sumL f
theorem Within.len : ∀ {l : List S49} {f : List Int}, Within l f → f.length = l.length
 | [], [], _ => rfl
 | _ :: _, _ :: _, h => by simp [Within.len h.2.2]
 | [], _ :: _, h => h.elim
 | _ :: _, [], h => h.elim
theorem Within.get : ∀ {l : List S49} {f : List Int}, Within l f → ∀ i (h : i < l.length) (h' : i < f.length), 0 ≤ f[i] ∧ f[i] ≤ (l[i]).f2
 | _ :: _, _ :: _, h, 0, _, _ => ⟨h.1, h.2.1⟩
 | _ :: l, _ :: f, h, i + 1, h1, h2 => by
  simp only [List.getElem_cons_succ]
  exact Within.get h.2.2 i (by simpa using h1) (by simpa using h2)
 | [], [], _, i, h1, _ => absurd h1 (by simp)
theorem Within.of : ∀ {l : List S49} {f : List Int}, f.length = l.length → (∀ i (h : i < l.length) (h' : i < f.length), 0 ≤ f[i] ∧ f[i] ≤ (l[i]).f2) → Within l f
 | [], [], _, _ => trivial
 | a :: l, x :: f, hl, h => by
  have h0 := h 0 (by simp) (by simp)
  exact ⟨h0.1, h0.2, Within.of (by simpa using hl) (fun i h1 h2 => by have := h (i + 1) (by simpa using h1) (by simpa using h2); simpa using this)⟩
 | [], _ :: _, hl, _ => absurd hl (by simp)
 | _ :: _, [], hl, _ => absurd hl (by simp)
theorem rd_get {f : List Int} {i : Nat} (h : i < f.length) : rd f (i : Int) = f[i] := by simp [rd, h]
theorem rdT_get {l : List S49} {i : Nat} (h : i < l.length) : rd_T49 l (i : Int) = l[i] := by simp [rd_T49, h]
theorem Within.sum : ∀ {l : List S49} {f : List Int}, Within l f → 0 ≤ sumL f ∧ sumL f ≤ sumCap l
 | [], [], _ => ⟨Int.le_refl _, Int.le_refl _⟩
 | a :: l, x :: f, h => by
  have := Within.sum h.2.2
  have h1 := h.1
  have h2 := h.2.1
  simp only [sumL, sumCap]; omega
 | [], _ :: _, h => h.elim
 | _ :: _, [], h => h.elim
theorem Within.nonneg : ∀ {l : List S49} {f : List Int}, Within l f → ∀ x ∈ f, 0 ≤ x
 | [], [], _, x, hx => by cases hx
 | a :: l, y :: f, h, x, hx => by
  rcases List.mem_cons.1 hx with rfl | hx
  ·exact h.1
  ·exact Within.nonneg h.2.2 x hx
 | [], _ :: _, h, _, _ => h.elim
 | _ :: _, [], h, _, _ => h.elim
theorem Within.drop : ∀ {l : List S49} {f : List Int}, Within l f → ∀ i, Within (l.drop i) (f.drop i)
 | l, f, h, 0 => by simpa using h
 | [], [], _, _ + 1 => trivial
 | _ :: _, _ :: _, h, i + 1 => by simpa using Within.drop h.2.2 i
 | [], _ :: _, h, _ + 1 => h.elim
 | _ :: _, [], h, _ + 1 => h.elim
theorem Within.zeros : ∀ {l : List S49}, (∀ a ∈ l, 0 ≤ a.f2) → Within l (List.replicate l.length 0)
 | [], _ => trivial
 | a :: l, h => ⟨Int.le_refl _, h a List.mem_cons_self, Within.zeros (fun x hx => h x (List.mem_cons_of_mem _ hx))⟩
theorem exc_zeros : ∀ (l : List S49) (n : Nat) (v : Int), exc l (List.replicate n 0) v = 0
 | [], _, _ => by simp [exc]
 | _ :: _, 0, _ => by simp [exc]
 | a :: l, n + 1, v => by
  simp only [List.replicate_succ, exc, exc_zeros l n v]
  split <;> split <;> rfl
theorem Within.set : ∀ {l : List S49} {f : List Int}, Within l f → ∀ (i : Nat) (x : Int), 0 ≤ x → (∀ h : i < l.length, x ≤ (l[i]).f2) → Within l (f.set i x)
 | [], [], _, _, _, _, _ => by simp [Within]
 | a :: l, y :: f, h, 0, x, h0, hx => ⟨h0, hx (by simp), h.2.2⟩
 | a :: l, y :: f, h, i + 1, x, h0, hx => ⟨h.1, h.2.1, Within.set h.2.2 i x h0 (fun h' => by have := hx (by simpa using h'); simpa using this)⟩
 | [], _ :: _, h, _, _, _, _ => h.elim
 | _ :: _, [], h, _, _, _, _ => h.elim
structure IsFlow (n s t : Int) (l : List S49) (f : List Int) : Prop where
 within : Within l f
 cons : ∀ v, 1 ≤ v → v ≤ n → v ≠ s → v ≠ t → exc l f v = 0
theorem IsFlow.zeros {n s t : Int} {l : List S49} (h : ∀ a ∈ l, GoodArc n a) : IsFlow n s t l (List.replicate l.length 0) :=
 ⟨Within.zeros (fun a ha => (h a ha).2.2.2.2), fun v _ _ _ _ => exc_zeros _ _ _⟩
theorem rd_set {xs : List Int} {j u x : Int} (h0 : 0 ≤ j) (h1 : j < (xs.length : Int)) (hu : 0 ≤ u) : rd (xs.set j.toNat x) u = if j = u then x else rd xs u := by
 unfold rd
 rw [List.getD_eq_getElem?_getD, List.getD_eq_getElem?_getD, List.getElem?_set]
 by_cases e : j = u
 ·subst e
  rw [if_pos rfl, if_pos (by omega), if_pos rfl]; rfl
 ·rw [if_neg (by omega), if_neg e]
theorem sumL_drop {f : List Int} {i : Nat} (h : i < f.length) : sumL (f.drop i) = f[i] + sumL (f.drop (i + 1)) := by
 rw [List.drop_eq_getElem_cons h]; rfl
theorem sumL_nonneg : ∀ {g : List Int}, (∀ x ∈ g, 0 ≤ x) → 0 ≤ sumL g
 | [], _ => Int.le_refl _
 | y :: g, h => by
  have h1 := sumL_nonneg (g := g) (fun x hx => h x (List.mem_cons_of_mem _ hx))
  have h2 := h y List.mem_cons_self
  simp only [sumL]; omega
theorem exc_loop {n : Int} {l : List S49} {f : List Int} (hg : ∀ a ∈ l, GoodArc n a) (hf : ∀ x ∈ f, 0 ≤ x) (hlen : f.length = l.length) (hS : sumL f ≤ 4611686018427387903) (hl : l.length ≤ 2000) (d : Nat) :
  ∀ (i : Nat) (out : List Int), i + d = l.length → (out.length : Int) = n + 1 → (∀ v, 0 ≤ v → v ≤ n → -(sumL f - sumL (f.drop i)) ≤ rd out v ∧ rd out v ≤ sumL f - sumL (f.drop i)) →
   ∃ out', Ev (fun k => flow_excesses.l0 k f out l (l.length : Int) (i : Int)) out' ∧ (out'.length : Int) = n + 1 ∧ ∀ v, 0 ≤ v → v ≤ n → rd out' v = rd out v + exc (l.drop i) (f.drop i) v := by
 induction d with
 | zero =>
  intro i out hi ho _
  refine ⟨out, Ev.step (f := fun _ => some out) (fun k => ?_) (Ev.now _), ho, fun v _ _ => ?_⟩
  ·simp only [flow_excesses.l0]
   rw [if_neg (by omega)]
  ·rw [List.drop_of_length_le (show l.length ≤ i by omega), exc_nil]; omega
 | succ d ih =>
  intro i out hi ho hb
  have hil : i < l.length := by omega
  have hif : i < f.length := by omega
  obtain ⟨g0, g1, g2, g3, _⟩ := hg l[i] (List.getElem_mem hil)
  have hx0 := hf f[i] (List.getElem_mem hif)
  have hsd := sumL_drop hif
  have hsn := sumL_nonneg (g := f.drop (i + 1)) (fun x hx => hf x (List.mem_of_mem_drop hx))
  have b0 := hb (l[i]).f0 (by omega) g1
  have e1 : wrap64 (rd out (l[i]).f0 - f[i]) = rd out (l[i]).f0 - f[i] := wrap_id (by omega) (by omega)
  have hr1 : ∀ u, 0 ≤ u → rd (out.set ((l[i]).f0).toNat (rd out (l[i]).f0 - f[i])) u = if (l[i]).f0 = u then rd out (l[i]).f0 - f[i] else rd out u := fun u hu => rd_set (by omega) (by omega) hu
  have b1 := hb (l[i]).f1 (by omega) g3
  have e2 : wrap64 (rd (out.set ((l[i]).f0).toNat (rd out (l[i]).f0 - f[i])) (l[i]).f1 + f[i]) = rd (out.set ((l[i]).f0).toNat (rd out (l[i]).f0 - f[i])) (l[i]).f1 + f[i] := by
   have := hr1 (l[i]).f1 (by omega)
   rw [this]
   split <;> exact wrap_id (by omega) (by omega)
  have hr2 : ∀ u, 0 ≤ u → rd ((out.set ((l[i]).f0).toNat (rd out (l[i]).f0 - f[i])).set ((l[i]).f1).toNat (rd (out.set ((l[i]).f0).toNat (rd out (l[i]).f0 - f[i])) (l[i]).f1 + f[i])) u = rd out u + ((if (l[i]).f1 = u then f[i] else 0) - (if (l[i]).f0 = u then f[i] else 0)) := by
   intro u hu
   rw [rd_set (by omega) (by rw [List.length_set]; omega) hu, hr1 (l[i]).f1 (by omega), hr1 u hu]
   by_cases c1 : (l[i]).f1 = u
   ·by_cases c0 : (l[i]).f0 = u
    ·rw [if_pos c1, if_pos (by omega), if_pos c1, if_pos c0, c0]; omega
    ·rw [if_pos c1, if_neg (by omega), if_pos c1, if_neg c0, c1]; omega
   ·by_cases c0 : (l[i]).f0 = u
    ·rw [if_neg c1, if_pos c0, if_neg c1, if_pos c0, c0]; omega
    ·rw [if_neg c1, if_neg c0, if_neg c1, if_neg c0]; omega
  obtain ⟨Y, hYd⟩ : ∃ Y, ((out.set ((l[i]).f0).toNat (rd out (l[i]).f0 - f[i])).set ((l[i]).f1).toNat (rd (out.set ((l[i]).f0).toNat (rd out (l[i]).f0 - f[i])) (l[i]).f1 + f[i])) = Y := ⟨_, rfl⟩
  rw [hYd] at hr2
  obtain ⟨out', h1, h2, h3⟩ := ih (i + 1) Y (by omega) (by rw [← hYd, List.length_set, List.length_set]; exact ho) (fun v hv0 hv1 => by
   have hbv := hb v hv0 hv1
   have e := hr2 v hv0
   rw [e]
   by_cases c1 : (l[i]).f1 = v
   ·by_cases c0 : (l[i]).f0 = v
    ·rw [if_pos c1, if_pos c0]; omega
    ·rw [if_pos c1, if_neg c0]; omega
   ·by_cases c0 : (l[i]).f0 = v
    ·rw [if_neg c1, if_pos c0]; omega
    ·rw [if_neg c1, if_neg c0]; omega)
  refine ⟨out', Ev.step (fun k => ?_) h1, h2, fun v hv0 hv1 => ?_⟩
  ·simp only [flow_excesses.l0]
   rw [if_pos (by omega), if_pos (by omega), if_pos (by omega), rdT_get hil, rd_get hif, if_pos (by omega), if_pos (by omega), if_pos (by omega), e1]
   simp only [Option.bind_some]
   rw [if_pos (by omega), if_pos (by omega), e2, wrap_id (by omega) (by omega), hYd]
   rfl
  ·rw [h3 v hv0 hv1, hr2 v hv0, List.drop_eq_getElem_cons hil, List.drop_eq_getElem_cons hif]
   simp only [exc]; omega
theorem rd_replicate (m : Nat) (v : Int) : rd (List.replicate m 0) v = 0 := by
 unfold rd
 rw [List.getD_eq_getElem?_getD, List.getElem?_replicate]
 split <;> rfl
theorem excesses_ev {n s t : Int} {l : List S49} {f : List Int} (R : Right n s t l) (W : Within l f) :
  ∃ out, Ev (fun k => flow_excesses.f k n s t l f) out ∧ (out.length : Int) = n + 1 ∧ ∀ v, 0 ≤ v → v ≤ n → rd out v = exc l f v := by
 have h1 := R.n2
 have h2 := R.n500
 have hs := W.sum
 have hR := R.sum
 obtain ⟨out, ho, hl, hv⟩ := exc_loop R.arcs W.nonneg W.len (by omega) R.len l.length 0 (List.replicate (n + 1).toNat 0) (by omega) (by simp; omega) (fun v _ _ => by rw [rd_replicate, List.drop_zero]; omega)
 refine ⟨out, Ev.congr (fun k => ?_) ho, hl, fun v h0 h3 => ?_⟩
 ·unfold flow_excesses.f
  rw [wrap_id (x := n + 1) (by omega) (by omega), if_pos (by omega), if_pos (by omega)]
  rfl
 ·rw [hv v h0 h3, rd_replicate, List.drop_zero, List.drop_zero]; omega
theorem within_loop {n s t : Int} {l : List S49} {f : List Int} (W : Within l f) (hl : l.length ≤ 2000) (d : Nat) : ∀ i : Nat, i + d = f.length → Ev (fun k => flow_within.l0 k f (f.length : Int) (i : Int) n s t l) 0 := by
 have hlen := W.len
 induction d with
 | zero =>
  intro i hi
  refine Ev.step (f := fun _ => some 0) (fun k => ?_) (Ev.now _)
  simp only [flow_within.l0]
  rw [if_neg (by omega)]
 | succ d ih =>
  intro i hi
  have hif : i < f.length := by omega
  have hil : i < l.length := by omega
  have hb := W.get i hil hif
  refine Ev.step (fun k => ?_) (ih (i + 1) (by omega))
  simp only [flow_within.l0]
  rw [if_pos (by omega), if_pos (by omega), if_pos (by omega), rd_get hif, rdT_get hil, if_neg (by omega), if_pos (by omega), if_neg (by omega), wrap_id (by omega) (by omega)]
  rfl
theorem within_yes {n s t : Int} {l : List S49} {f : List Int} (R : Right n s t l) (W : Within l f) : Ev (fun k => flow_within.f k n s t l f) 0 := by
 have hlen := W.len
 refine Ev.congr (fun k => ?_) (within_loop (n := n) (s := s) (t := t) W R.len f.length 0 (by omega))
 unfold flow_within.f
 rw [R.check]
 simp only [Option.bind_some, if_true]
 rw [if_pos (by omega)]
 rfl
theorem within_bad {n s t : Int} {l : List S49} {f : List Int} (hlen : f.length = l.length) (hl : l.length ≤ 2000) (d : Nat) : ∀ i : Nat, i + d = f.length → (∃ j, i ≤ j ∧ ∃ (h : j < l.length) (h' : j < f.length), ¬ (0 ≤ f[j] ∧ f[j] ≤ (l[j]).f2)) →
  Ev (fun k => flow_within.l0 k f (f.length : Int) (i : Int) n s t l) 3 := by
 induction d with
 | zero =>
  intro i hi ⟨j, h1, h2, h3, _⟩
  omega
 | succ d ih =>
  intro i hi ⟨j, h1, h2, h3, h4⟩
  have hif : i < f.length := by omega
  have hil : i < l.length := by omega
  by_cases c0 : f[i] < 0
  ·refine Ev.step (f := fun _ => some 3) (fun k => ?_) (Ev.now _)
   simp only [flow_within.l0]
   rw [if_pos (by omega), if_pos (by omega), if_pos (by omega), rd_get hif, if_pos c0]
  ·by_cases c1 : f[i] > (l[i]).f2
   ·refine Ev.step (f := fun _ => some 3) (fun k => ?_) (Ev.now _)
    simp only [flow_within.l0]
    rw [if_pos (by omega), if_pos (by omega), if_pos (by omega), rd_get hif, rdT_get hil, if_neg c0, if_pos (by omega), if_pos c1]
   ·have hne : i ≠ j := by
     rintro rfl
     exact h4 ⟨by omega, by omega⟩
    refine Ev.step (fun k => ?_) (ih (i + 1) (by omega) ⟨j, by omega, h2, h3, h4⟩)
    simp only [flow_within.l0]
    rw [if_pos (by omega), if_pos (by omega), if_pos (by omega), rd_get hif, rdT_get hil, if_neg c0, if_pos (by omega), if_neg c1, wrap_id (by omega) (by omega)]
    rfl
theorem within_no {n s t : Int} {l : List S49} {f : List Int} (R : Right n s t l) (hlen : f.length = l.length) (W : ¬ Within l f) : Ev (fun k => flow_within.f k n s t l f) 3 := by
 have hex : ∃ j, 0 ≤ j ∧ ∃ (h : j < l.length) (h' : j < f.length), ¬ (0 ≤ f[j] ∧ f[j] ≤ (l[j]).f2) := by
  apply Classical.byContradiction
  intro hn
  refine W (Within.of hlen fun i h h' => ?_)
  apply Classical.byContradiction
  intro hb
  exact hn ⟨i, Nat.zero_le _, h, h', hb⟩
 refine Ev.congr (fun k => ?_) (within_bad (n := n) (s := s) (t := t) hlen R.len f.length 0 (by omega) hex)
 unfold flow_within.f
 rw [R.check]
 simp only [Option.bind_some, if_true]
 rw [if_pos (by omega)]
 rfl
theorem within_count {n s t : Int} {l : List S49} {f : List Int} (R : Right n s t l) (hlen : f.length ≠ l.length) : Ev (fun k => flow_within.f k n s t l f) 6 := by
 refine Ev.congr (f := fun _ => some 6) (fun k => ?_) (Ev.now _)
 unfold flow_within.f
 rw [R.check]
 simp only [Option.bind_some, if_true]
 rw [if_neg (by omega)]
theorem check_loop {n s t : Int} {l : List S49} {x : List Int} (hn : n ≤ 500) (hx : (x.length : Int) = n + 1) (d : Nat) : ∀ i : Nat, (i : Int) + d = n → (∀ v, (i : Int) < v → v ≤ n → v ≠ s → v ≠ t → rd x v = 0) →
  Ev (fun k => flow_Check.l0 k x n (i : Int) n s t l) 0 := by
 induction d with
 | zero =>
  intro i hi _
  refine Ev.step (f := fun _ => some 0) (fun k => ?_) (Ev.now _)
  simp only [flow_Check.l0]
  rw [if_neg (by omega)]
 | succ d ih =>
  intro i hi hz
  refine Ev.step (fun k => ?_) (ih (i + 1) (by omega) (fun v h1 h2 h3 h4 => hz v (by omega) h2 h3 h4))
  simp only [flow_Check.l0]
  rw [if_pos (by omega), wrap_id (by omega) (by omega)]
  by_cases c1 : (i : Int) + 1 = s
  ·rw [if_pos c1]; rfl
  ·by_cases c2 : (i : Int) + 1 = t
   ·rw [if_neg c1, if_pos c2]; rfl
   ·rw [if_neg c1, if_neg c2, if_pos (by omega), if_pos (by omega), if_pos (hz _ (by omega) (by omega) c1 c2)]; rfl
theorem check_bad {n s t : Int} {l : List S49} {x : List Int} (hn : n ≤ 500) (hx : (x.length : Int) = n + 1) (d : Nat) : ∀ i : Nat, (i : Int) + d = n → (∃ v, (i : Int) < v ∧ v ≤ n ∧ v ≠ s ∧ v ≠ t ∧ rd x v ≠ 0) →
  Ev (fun k => flow_Check.l0 k x n (i : Int) n s t l) 9 := by
 induction d with
 | zero => intro i hi ⟨v, h1, h2, _⟩; omega
 | succ d ih =>
  intro i hi ⟨v, h1, h2, h3, h4, h5⟩
  by_cases c1 : (i : Int) + 1 = s
  ·refine Ev.step (fun k => ?_) (ih (i + 1) (by omega) ⟨v, by omega, h2, h3, h4, h5⟩)
   simp only [flow_Check.l0]
   rw [if_pos (by omega), wrap_id (by omega) (by omega), if_pos c1]; rfl
  ·by_cases c2 : (i : Int) + 1 = t
   ·refine Ev.step (fun k => ?_) (ih (i + 1) (by omega) ⟨v, by omega, h2, h3, h4, h5⟩)
    simp only [flow_Check.l0]
    rw [if_pos (by omega), wrap_id (by omega) (by omega), if_neg c1, if_pos c2]; rfl
   ·by_cases c3 : rd x ((i : Int) + 1) = 0
    ·refine Ev.step (fun k => ?_) (ih (i + 1) (by omega) ⟨v, by
      by_cases e : v = (i : Int) + 1
      ·rw [e] at h5; exact absurd c3 h5
      ·omega, h2, h3, h4, h5⟩)
     simp only [flow_Check.l0]
     rw [if_pos (by omega), wrap_id (by omega) (by omega), if_neg c1, if_neg c2, if_pos (by omega), if_pos (by omega), if_pos c3]; rfl
    ·refine Ev.step (f := fun _ => some 9) (fun k => ?_) (Ev.now _)
     simp only [flow_Check.l0]
     rw [if_pos (by omega), wrap_id (by omega) (by omega), if_neg c1, if_neg c2, if_pos (by omega), if_pos (by omega), if_neg c3]
theorem check_flow {n s t : Int} {l : List S49} {f : List Int} (R : Right n s t l) (F : IsFlow n s t l f) : Ev (fun k => flow_Check.f k n s t l f) 0 := by
 obtain ⟨x, h1, h2, h3⟩ := excesses_ev R F.within
 have hn := R.n2
 unfold flow_Check.f
 refine Ev.bind (within_yes R F.within) ?_
 simp only [if_true]
 refine Ev.bind h1 ?_
 exact check_loop R.n500 h2 n.toNat 0 (by omega) (fun v hv1 hv2 hv3 hv4 => by rw [h3 v (by omega) hv2]; exact F.cons v (by omega) hv2 hv3 hv4)
theorem check_state {n s t : Int} {l : List S49} {f : List Int} (R : Right n s t l) (W : Within l f) {v : Int} (v1 : 1 ≤ v) (vn : v ≤ n) (vs : v ≠ s) (vt : v ≠ t) (hv : exc l f v ≠ 0) : Ev (fun k => flow_Check.f k n s t l f) 9 := by
 obtain ⟨x, h1, h2, h3⟩ := excesses_ev R W
 have hn := R.n2
 unfold flow_Check.f
 refine Ev.bind (within_yes R W) ?_
 simp only [if_true]
 refine Ev.bind h1 ?_
 exact check_bad R.n500 h2 n.toNat 0 (by omega) ⟨v, by omega, vn, vs, vt, by rw [h3 v (by omega) vn]; exact hv⟩
theorem check_range {n s t : Int} {l : List S49} {f : List Int} (R : Right n s t l) (hlen : f.length = l.length) (W : ¬ Within l f) : Ev (fun k => flow_Check.f k n s t l f) 3 := by
 unfold flow_Check.f
 refine Ev.bind (within_no R hlen W) ?_
 exact Ev.congr (fun k => if_neg (by decide)) (Ev.now 3)
def Path (l : List S49) : Int → List Int → Int → Prop
 | u, [], v => u = v
 | u, i :: w, v => (rd_T49 l i).f0 = u ∧ Path l (rd_T49 l i).f1 w v
theorem Path.snoc {l : List S49} : ∀ {w : List Int} {u v i : Int}, Path l u w v → (rd_T49 l i).f0 = v → Path l u (w ++ [i]) (rd_T49 l i).f1
 | [], u, v, i, h, hi => ⟨by rw [hi]; exact h.symm, rfl⟩
 | _ :: w, u, v, i, h, hi => ⟨h.1, Path.snoc h.2 hi⟩
theorem wrap_succ {i : Nat} (h : i ≤ 1000000) : wrap64 ((i : Int) + 1) = ((i + 1 : Nat) : Int) := by rw [wrap_id (by omega) (by omega)]; rfl
theorem rdT_mem {l : List S49} {i : Int} (h0 : 0 ≤ i) (h1 : i < (l.length : Int)) : rd_T49 l i ∈ l := by
 have hlt : i.toNat < l.length := by omega
 have : rd_T49 l i = l[i.toNat] := by unfold rd_T49; rw [List.getD_eq_getElem?_getD, List.getElem?_eq_getElem hlt]; rfl
 rw [this]; exact List.getElem_mem hlt
theorem bit_odd {r : Int} (h0 : 0 ≤ r) (h1 : r ≤ 1000000) : Go.bits .and .i64 r 1 = r % 2 := by
 obtain ⟨i, rfl⟩ : ∃ i : Nat, r = (i : Int) := ⟨r.toNat, by omega⟩
 rw [Go.Proofs.and_one i (by omega)]; omega
theorem tdiv2 {r : Int} (h0 : 0 ≤ r) : Int.tdiv r 2 = r / 2 := Int.tdiv_eq_ediv_of_nonneg h0
def fromOf (l : List S49) (r : Int) : Int := if r % 2 = 1 then (rd_T49 l (r / 2)).f1 else (rd_T49 l (r / 2)).f0
def toOf (l : List S49) (r : Int) : Int := if r % 2 = 1 then (rd_T49 l (r / 2)).f0 else (rd_T49 l (r / 2)).f1
def InR (l : List S49) (r : Int) : Prop := 0 ≤ r ∧ r < 2 * (l.length : Int)
theorem ends_ev {n s t r : Int} {l : List S49} (h : InR l r) (hl : l.length ≤ 2000) : Ev (fun k => residual_Ends.f k n s t l r) (fromOf l r, toOf l r) := by
 obtain ⟨h0, h1⟩ := h
 have hd : wrap64 (Int.tdiv r 2) = r / 2 := by rw [tdiv2 h0, wrap_id (by omega) (by omega)]
 have e : Ev (fun k => residual_Ends.j0 k r (decide (wrap64 (Int.tdiv r 2) ≥ (l.length : Int))) n s t l) (fromOf l r, toOf l r) := by
  refine Ev.step (f := fun _ => some (fromOf l r, toOf l r)) (fun k => ?_) (Ev.now _)
  simp only [residual_Ends.j0, hd, bit_odd h0 (show r ≤ 1000000 by omega)]
  rw [if_neg (by simp; omega), if_pos (by omega), if_pos (by omega)]
  unfold fromOf toOf
  by_cases c : r % 2 = 1
  ·rw [if_pos c, if_pos c, if_pos c]
  ·rw [if_neg c, if_neg c, if_neg c]
 refine Ev.congr (fun k => ?_) e
 unfold residual_Ends.f
 rw [if_neg (by omega)]
theorem ends_range {n : Int} {l : List S49} {r : Int} (hg : ∀ a ∈ l, GoodArc n a) (h : InR l r) : 1 ≤ fromOf l r ∧ fromOf l r ≤ n ∧ 1 ≤ toOf l r ∧ toOf l r ≤ n := by
 obtain ⟨h0, h1⟩ := h
 obtain ⟨g0, g1, g2, g3, _⟩ := hg _ (rdT_mem (l := l) (i := r / 2) (by omega) (by omega))
 unfold fromOf toOf
 split <;> omega
def RPath (l : List S49) : Int → List Int → Int → Prop
 | u, [], v => u = v
 | u, r :: w, v => fromOf l r = u ∧ RPath l (toOf l r) w v
theorem RPath.snoc {l : List S49} : ∀ {w : List Int} {u v r : Int}, RPath l u w v → fromOf l r = v → RPath l u (w ++ [r]) (toOf l r)
 | [], u, v, r, h, hr => ⟨by rw [hr]; exact h.symm, rfl⟩
 | _ :: w, u, v, r, h, hr => ⟨h.1, RPath.snoc h.2 hr⟩
theorem rd_ext {f g : List Int} (hl : f.length = g.length) (h : ∀ i, 0 ≤ i → rd f i = rd g i) : f = g := by
 refine List.ext_getElem hl (fun i h1 h2 => ?_)
 have := h (i : Int) (by omega)
 rwa [rd_get h1, rd_get h2] at this
theorem roomOf_len : ∀ {l : List S49} {f : List Int}, f.length = l.length → (roomOf l f).length = 2 * l.length
 | [], [], _ => rfl
 | a :: l, x :: f, h => by
  have := roomOf_len (l := l) (f := f) (by simpa using h)
  simp only [roomOf, List.length_cons, this]; omega
 | [], _ :: _, h => absurd h (by simp)
 | _ :: _, [], h => absurd h (by simp)
theorem room_ev {n s t : Int} {l : List S49} {f : List Int} (R : Right n s t l) (F : IsFlow n s t l f) : Ev (fun k => residual_Room.f k n s t l f) (roomOf l f, 0) := by
 have hlen := F.within.len
 have hl := R.len
 unfold residual_Room.f
 refine Ev.bind (check_flow R F) ?_
 have c : f.length ≤ l.length ∧ f.length ≤ 8796093022208 := by omega
 simp only [if_true, if_pos c]
 exact Ev.now _
def cntM : List Int → Nat
 | [] => 0
 | x :: t => (if x = -1 then 1 else 0) + cntM t
theorem cntM_set {x : Int} (hx : x ≠ -1) : ∀ {m : List Int} {i : Nat} (h : i < m.length), m[i] = -1 → cntM (m.set i x) + 1 = cntM m
 | [], i, h, _ => absurd h (by simp)
 | y :: t, 0, _, hy => by
  have hy : y = -1 := hy
  simp only [List.set_cons_zero, cntM, if_neg hx, if_pos hy]
  omega
 | y :: t, i + 1, h, hy => by
  have h1 : i < t.length := by simpa using h
  have ih := cntM_set hx h1 (by simpa using hy)
  simp only [List.set_cons_succ, cntM]
  omega
theorem cntM_replicate : ∀ k, cntM (List.replicate k (-1)) = k
 | 0 => rfl
 | k + 1 => by rw [List.replicate_succ, cntM, cntM_replicate k, if_pos rfl]; omega
theorem cntM_le : ∀ m : List Int, cntM m ≤ m.length
 | [] => Nat.le_refl _
 | x :: t => by have := cntM_le t; simp only [cntM, List.length_cons]; split <;> omega
theorem cntM_pos {m : List Int} (h : 0 < m.length) (h0 : rd m 0 = -1) : 1 ≤ cntM m := by
 cases m with
 | nil => exact absurd h (by simp)
 | cons x t =>
  have hx : x = -1 := by simpa [rd] using h0
  simp only [cntM, if_pos hx]; omega
theorem tracks_at {fr : Int → Int} {m : Nat} : ∀ (N v : Nat), v < m → ∃ x, (Go.Proofs.YtbppeffcikphcaaW.Mine.trAll fr m N)[v]? = some x ∧ ∀ r, (0 ≤ r ∧ r < (N : Int) ∧ (fr r).toNat = v) ↔ r ∈ x
 | 0, v, h => ⟨[], by simp [Go.Proofs.YtbppeffcikphcaaW.Mine.trAll, h], fun r => ⟨fun hr => by omega, fun hr => by cases hr⟩⟩
 | N + 1, v, h => by
  obtain ⟨x, hx, hr⟩ := tracks_at (fr := fr) (m := m) N v h
  have hl := Go.Proofs.YtbppeffcikphcaaW.Mine.trAll_length fr m N
  simp only [Go.Proofs.YtbppeffcikphcaaW.Mine.trAll, Go.Proofs.YtbppeffcikphcaaW.Mine.trAdd]
  by_cases c : (fr (N : Int)).toNat = v
  ·rw [c]
   have e : (Go.Proofs.YtbppeffcikphcaaW.Mine.trAll fr m N).getD v [] = x := by rw [List.getD_eq_getElem?_getD, hx]; rfl
   refine ⟨x ++ [(N : Int)], by rw [List.getElem?_set_self (by omega), e], fun r => ?_⟩
   rw [List.mem_append, List.mem_singleton, ← hr r]
   constructor
   ·intro h1
    by_cases c2 : r = (N : Int)
    ·exact .inr c2
    ·exact .inl ⟨h1.1, by omega, h1.2.2⟩
   ·rintro (h1 | rfl)
    ·exact ⟨h1.1, by omega, h1.2.2⟩
    ·exact ⟨by omega, by omega, c⟩
  ·refine ⟨x, by rw [List.getElem?_set_ne c]; exact hx, fun r => ?_⟩
   rw [← hr r]
   constructor
   ·intro h1
    refine ⟨h1.1, ?_, h1.2.2⟩
    by_cases c2 : r = (N : Int)
    ·subst c2; exact absurd h1.2.2 c
    ·omega
   ·intro h1
    exact ⟨h1.1, by omega, h1.2.2⟩
structure IsUp (n s : Int) (l : List S49) (room : List Int) (least : Int) (up : List Int) : Prop where
 len : (up.length : Int) = n + 1
 src : rd up s = 0
 rng : ∀ v, 0 ≤ v → v ≤ n → rd up v = -1 ∨ 0 ≤ rd up v ∧ rd up v < n
 zero : ∀ v, 0 ≤ v → v ≤ n → rd up v = 0 → v = s
 none0 : rd up 0 = -1
 step : ∀ r, InR l r → least ≤ rd room r → 0 ≤ rd up (fromOf l r) → 0 ≤ rd up (toOf l r) ∧ rd up (toOf l r) ≤ rd up (fromOf l r) + 1
 pred : ∀ v, 0 ≤ v → v ≤ n → 0 < rd up v → ∃ r, InR l r ∧ least ≤ rd room r ∧ toOf l r = v ∧ rd up (fromOf l r) = rd up v - 1
structure Mid (n : Int) (l : List S49) (room : List Int) (least k : Int) (out o nx : List Int) : Prop where
 len : o.length = out.length
 old : ∀ v, 0 ≤ v → v ≤ n → rd o v = rd out v ∨ rd out v = -1 ∧ rd o v = k
 mem : ∀ v, v ∈ nx ↔ 0 ≤ v ∧ v ≤ n ∧ rd o v = k
 cnt : nx.length + cntM o = cntM out
 pred : ∀ v, 0 ≤ v → v ≤ n → rd o v = k → ∃ r, InR l r ∧ least ≤ rd room r ∧ toOf l r = v ∧ rd out (fromOf l r) = k - 1
 none0 : rd o 0 = -1
section
variable {n s least k : Int} {l : List S49} {room out : List Int}
theorem Mid.one {o nx : List Int} (hg : ∀ a ∈ l, GoodArc n a) (hlen : (out.length : Int) = n + 1) (hk : 1 ≤ k) (M : Mid n l room least k out o nx) {r : Int} (hr : InR l r) (hv : rd out (fromOf l r) = k - 1) :
  Mid n l room least k out (lvOne l room least k (o, nx) r).1 (lvOne l room least k (o, nx) r).2 ∧ (least ≤ rd room r → rd (lvOne l room least k (o, nx) r).1 (toOf l r) ≠ -1) ∧ ∀ v, 0 ≤ v → rd o v ≠ -1 → rd (lvOne l room least k (o, nx) r).1 v = rd o v := by
 obtain ⟨_, _, t1, tn⟩ := ends_range hg hr
 have et : lvTo l r = toOf l r := rfl
 have hl := M.len
 unfold lvOne
 rw [et]
 by_cases c : least ≤ rd room r ∧ rd o (toOf l r) = -1
 ·rw [if_pos c]
  have hs : ∀ u, 0 ≤ u → rd (o.set (toOf l r).toNat k) u = if toOf l r = u then k else rd o u := fun u hu => rd_set (by omega) (by omega) hu
  have hold : rd out (toOf l r) = -1 := by
   rcases M.old (toOf l r) (by omega) tn with h | h
   ·rw [← h]; exact c.2
   ·exact h.1
  have hil : (toOf l r).toNat < o.length := by omega
  have hget : o[(toOf l r).toNat] = -1 := by
   have h := rd_get (f := o) hil
   rw [Int.toNat_of_nonneg (by omega)] at h
   rw [← h]; exact c.2
  refine ⟨⟨by rw [List.length_set]; exact hl, fun v v0 vn => ?_, fun v => ?_, ?_, fun v v0 vn h => ?_, ?_⟩, fun _ => ?_, fun v v0 h => ?_⟩
  ·show rd (o.set (toOf l r).toNat k) v = rd out v ∨ rd out v = -1 ∧ rd (o.set (toOf l r).toNat k) v = k
   rw [hs v v0]
   by_cases e : toOf l r = v
   ·rw [if_pos e, ← e]; exact .inr ⟨hold, rfl⟩
   ·rw [if_neg e]; exact M.old v v0 vn
  ·show v ∈ nx ++ [toOf l r] ↔ 0 ≤ v ∧ v ≤ n ∧ rd (o.set (toOf l r).toNat k) v = k
   rw [List.mem_append, List.mem_singleton, M.mem v]
   constructor
   ·rintro (⟨v0, vn, h⟩ | rfl)
    ·refine ⟨v0, vn, ?_⟩
     rw [hs v v0]
     split
     ·rfl
     ·exact h
    ·refine ⟨by omega, tn, ?_⟩
     rw [hs _ (by omega), if_pos rfl]
   ·rintro ⟨v0, vn, h⟩
    rw [hs v v0] at h
    by_cases e : toOf l r = v
    ·exact .inr e.symm
    ·rw [if_neg e] at h
     exact .inl ⟨v0, vn, h⟩
  ·show (nx ++ [toOf l r]).length + cntM (o.set (toOf l r).toNat k) = cntM out
   have h1 := cntM_set (x := k) (by omega) hil hget
   have h2 := M.cnt
   rw [List.length_append, List.length_singleton]
   omega
  ·have h : rd (o.set (toOf l r).toNat k) v = k := h
   rw [hs v v0] at h
   by_cases e : toOf l r = v
   ·exact ⟨r, hr, c.1, e, hv⟩
   ·rw [if_neg e] at h
    exact M.pred v v0 vn h
  ·show rd (o.set (toOf l r).toNat k) 0 = -1
   rw [hs 0 (by omega), if_neg (by omega)]
   exact M.none0
  ·show rd (o.set (toOf l r).toNat k) (toOf l r) ≠ -1
   rw [hs _ (by omega), if_pos rfl]
   omega
  ·show rd (o.set (toOf l r).toNat k) v = rd o v
   rw [hs v v0, if_neg]
   intro e
   rw [← e] at h
   exact h c.2
 ·rw [if_neg c]
  exact ⟨M, fun h e => c ⟨h, e⟩, fun _ _ _ => rfl⟩
theorem Mid.scan (hg : ∀ a ∈ l, GoodArc n a) (hlen : (out.length : Int) = n + 1) (hk : 1 ≤ k) : ∀ (rs : List Int) {o nx : List Int}, Mid n l room least k out o nx → (∀ r ∈ rs, InR l r ∧ rd out (fromOf l r) = k - 1) →
  Mid n l room least k out (lvScan l room least k (o, nx) rs).1 (lvScan l room least k (o, nx) rs).2 ∧ (∀ r ∈ rs, least ≤ rd room r → rd (lvScan l room least k (o, nx) rs).1 (toOf l r) ≠ -1) ∧ ∀ v, 0 ≤ v → rd o v ≠ -1 → rd (lvScan l room least k (o, nx) rs).1 v = rd o v
 | [], o, nx, M, _ => ⟨M, fun r hr => (by cases hr), fun _ _ _ => rfl⟩
 | r :: rs, o, nx, M, h => by
  obtain ⟨hr, hv⟩ := h r List.mem_cons_self
  obtain ⟨M1, h1, h2⟩ := M.one hg hlen hk hr hv
  obtain ⟨M2, h3, h4⟩ := Mid.scan hg hlen hk rs M1 (fun q hq => h q (List.mem_cons_of_mem _ hq))
  obtain ⟨_, _, t1, tn⟩ := ends_range hg hr
  rw [lvScan_cons]
  refine ⟨M2, fun q hq hroom => ?_, fun v v0 hv => ?_⟩
  ·rcases List.mem_cons.1 hq with rfl | hq
   ·rw [h4 _ (by omega) (h1 hroom)]
    exact h1 hroom
   ·exact h3 q hq hroom
  ·have e := h2 v v0 hv
   rw [h4 v v0 (by rw [e]; exact hv), e]
theorem Mid.row {ts : List (List Int)} (hg : ∀ a ∈ l, GoodArc n a) (hlen : (out.length : Int) = n + 1) (hk : 1 ≤ k) (hts : ∀ v, 0 ≤ v → v ≤ n → ∀ r, r ∈ ts.getD v.toNat [] ↔ InR l r ∧ fromOf l r = v) :
  ∀ (vs : List Int) {o nx : List Int}, Mid n l room least k out o nx → (∀ v ∈ vs, 0 ≤ v ∧ v ≤ n ∧ rd out v = k - 1) →
  Mid n l room least k out (lvRow l room ts least k (o, nx) vs).1 (lvRow l room ts least k (o, nx) vs).2 ∧ (∀ r, InR l r → fromOf l r ∈ vs → least ≤ rd room r → rd (lvRow l room ts least k (o, nx) vs).1 (toOf l r) ≠ -1) ∧ ∀ v, 0 ≤ v → rd o v ≠ -1 → rd (lvRow l room ts least k (o, nx) vs).1 v = rd o v
 | [], o, nx, M, _ => ⟨M, fun r _ hr => (by cases hr), fun _ _ _ => rfl⟩
 | v :: vs, o, nx, M, h => by
  obtain ⟨v0, vn, hv⟩ := h v List.mem_cons_self
  obtain ⟨M1, h1, h2⟩ := Mid.scan hg hlen hk (ts.getD v.toNat []) M (fun r hr => by
   obtain ⟨a, b⟩ := (hts v v0 vn r).1 hr
   exact ⟨a, by rw [b]; exact hv⟩)
  obtain ⟨M2, h3, h4⟩ := Mid.row hg hlen hk hts vs M1 (fun q hq => h q (List.mem_cons_of_mem _ hq))
  rw [lvRow_cons]
  refine ⟨M2, fun q hq hm hroom => ?_, fun u u0 hu => ?_⟩
  ·obtain ⟨_, _, t1, tn⟩ := ends_range hg hq
   rcases List.mem_cons.1 hm with e | hm
   ·have h5 := h1 q ((hts v v0 vn q).2 ⟨hq, e⟩) hroom
    rw [h4 _ (by omega) h5]
    exact h5
   ·exact h3 q hq hm hroom
  ·have e := h2 u u0 hu
   rw [h4 u u0 (by rw [e]; exact hu), e]
structure Inv (n s : Int) (l : List S49) (room : List Int) (least k : Int) (out next : List Int) : Prop where
 k1 : 1 ≤ k
 kn : k ≤ n + 1
 few : next ≠ [] → k + cntM out ≤ n + 1
 len : (out.length : Int) = n + 1
 src : rd out s = 0
 rng : ∀ v, 0 ≤ v → v ≤ n → rd out v = -1 ∨ 0 ≤ rd out v ∧ rd out v ≤ k - 1 ∧ rd out v < n
 mem : ∀ v, v ∈ next ↔ 0 ≤ v ∧ v ≤ n ∧ rd out v = k - 1
 zero : ∀ v, 0 ≤ v → v ≤ n → rd out v = 0 → v = s
 none0 : rd out 0 = -1
 step : ∀ r, InR l r → least ≤ rd room r → 0 ≤ rd out (fromOf l r) → rd out (fromOf l r) < k - 1 → 0 ≤ rd out (toOf l r) ∧ rd out (toOf l r) ≤ rd out (fromOf l r) + 1
 pred : ∀ v, 0 ≤ v → v ≤ n → 0 < rd out v → ∃ r, InR l r ∧ least ≤ rd room r ∧ toOf l r = v ∧ rd out (fromOf l r) = rd out v - 1
theorem turns_ev {ts : List (List Int)} (hg : ∀ a ∈ l, GoodArc n a) (hn : n ≤ 500) (hts : ∀ v, 0 ≤ v → v ≤ n → ∀ r, r ∈ ts.getD v.toNat [] ↔ InR l r ∧ fromOf l r = v) (d : Nat) :
  ∀ (out next : List Int) (k : Int), 2 * cntM out + (if next = [] then 0 else 1) ≤ d → Inv n s l room least k out next → ∃ up, Ev (fun f => lvTurn l room ts least f out next k) up ∧ IsUp n s l room least up := by
 induction d with
 | zero =>
  intro out next k hd I
  have h1 := cntM_pos (m := out) (by have := I.len; have := I.k1; have := I.kn; omega) I.none0
  omega
 | succ d ih =>
  intro out next k hd I
  have hk1 := I.k1
  have hkn := I.kn
  have hc1 := cntM_pos (m := out) (by have := I.len; omega) I.none0
  by_cases hz : next = []
  ·subst hz
   refine ⟨out, Ev.step (f := fun _ => some out) (fun f => ?_) (Ev.now _), ⟨I.len, I.src, fun v v0 vn => ?_, I.zero, I.none0, fun r hr hroom h => ?_, I.pred⟩⟩
   ·simp [lvTurn]
   ·rcases I.rng v v0 vn with h | h
    ·exact .inl h
    ·exact .inr ⟨h.1, h.2.2⟩
   ·obtain ⟨f1, fn, _, _⟩ := ends_range hg hr
    have hne : rd out (fromOf l r) ≠ k - 1 := fun e => by
     have := (I.mem (fromOf l r)).2 ⟨by omega, fn, e⟩
     cases this
    have := I.rng (fromOf l r) (by omega) fn
    exact I.step r hr hroom h (by omega)
  ·have M0 : Mid n l room least k out out [] := ⟨rfl, fun v _ _ => .inl rfl, fun v => ⟨fun h => by (cases h), fun ⟨v0, vn, h⟩ => by have := I.rng v v0 vn; omega⟩, by simp, fun v v0 vn h => by have := I.rng v v0 vn; omega, I.none0⟩
   obtain ⟨M, hset, hkeep⟩ := Mid.row (ts := ts) hg I.len hk1 hts next M0 (fun v hv => (I.mem v).1 hv)
   obtain ⟨o, ho⟩ : ∃ o, (lvRow l room ts least k (out, []) next).1 = o := ⟨_, rfl⟩
   obtain ⟨nx, hnx⟩ : ∃ nx, (lvRow l room ts least k (out, []) next).2 = nx := ⟨_, rfl⟩
   rw [ho] at M hset hkeep
   rw [hnx] at M
   have hfew := I.few hz
   have hcnt := M.cnt
   have hcl := cntM_le out
   have hlen := I.len
   have I2 : Inv n s l room least (k + 1) o nx := by
    refine ⟨by omega, by omega, fun hne => ?_, by rw [M.len]; exact hlen, ?_, fun v v0 vn => ?_, fun v => ?_, fun v v0 vn h => ?_, M.none0, fun r hr hroom h hlt => ?_, fun v v0 vn h => ?_⟩
    ·have : 0 < nx.length := List.length_pos_iff.2 hne
     omega
    ·have hs := (I.mem s)
     by_cases s0 : 0 ≤ s
     ·rw [hkeep s s0 (by rw [I.src]; decide), I.src]
     ·have h1 := I.src
      unfold rd at h1 ⊢
      have e : s.toNat = 0 := by omega
      have h2 := I.none0
      unfold rd at h2
      rw [e] at h1
      simp at h1 h2
      omega
    ·rcases M.old v v0 vn with e | ⟨_, e⟩
     ·rw [e]
      have := I.rng v v0 vn
      omega
     ·rw [e]
      have : 0 < nx.length := List.length_pos_iff.2 (fun e2 => by have := (M.mem v).2 ⟨v0, vn, e⟩; rw [e2] at this; cases this)
      have hc2 := cntM_pos (m := o) (by have := M.len; omega) M.none0
      omega
    ·rw [M.mem v, show k + 1 - 1 = k by omega]
    ·rcases M.old v v0 vn with e | ⟨_, e⟩
     ·exact I.zero v v0 vn (by rw [← e]; exact h)
     ·omega
    ·obtain ⟨f1, fn, t1, tn⟩ := ends_range hg hr
     rcases M.old (fromOf l r) (by omega) fn with e | ⟨_, e⟩
     ·rw [e] at h hlt ⊢
      by_cases c : rd out (fromOf l r) = k - 1
      ·have h5 := hset r hr ((I.mem _).2 ⟨by omega, fn, c⟩) hroom
       rcases M.old (toOf l r) (by omega) tn with e2 | ⟨_, e2⟩
       ·have := I.rng (toOf l r) (by omega) tn
        rw [e2] at h5 ⊢
        omega
       ·rw [e2]; omega
      ·have h6 := I.step r hr hroom h (by omega)
       rw [hkeep (toOf l r) (by omega) (by omega)]
       exact h6
     ·omega
    ·rcases M.old v v0 vn with e | ⟨_, e⟩
     ·rw [e] at h ⊢
      obtain ⟨r, hr, hroom, ht, hf⟩ := I.pred v v0 vn h
      obtain ⟨f1, fn, _, _⟩ := ends_range hg hr
      exact ⟨r, hr, hroom, ht, by rw [hkeep (fromOf l r) (by omega) (by omega)]; exact hf⟩
     ·obtain ⟨r, hr, hroom, ht, hf⟩ := M.pred v v0 vn e
      obtain ⟨f1, fn, _, _⟩ := ends_range hg hr
      refine ⟨r, hr, hroom, ht, ?_⟩
      rw [hkeep (fromOf l r) (by omega) (by omega), hf, e]
   have hdd : 2 * cntM o + (if nx = [] then 0 else 1) ≤ d := by
    rw [if_neg hz] at hd
    by_cases c : nx = []
    ·rw [if_pos c]
     omega
    ·have : 0 < nx.length := List.length_pos_iff.2 c
     rw [if_neg c]
     omega
   obtain ⟨up, hup, U⟩ := ih o nx (k + 1) hdd I2
   refine ⟨up, Ev.step (fun f => ?_) hup, U⟩
   simp only [lvTurn]
   rw [if_neg (fun e => hz (List.length_eq_zero_iff.1 e)), hnx, ho, if_pos (by omega), wrap_id (by omega) (by omega)]
end
theorem levels_ev {n s t least : Int} {l : List S49} {f : List Int} (R : Right n s t l) (F : IsFlow n s t l f) (hl : 1 ≤ least) :
  ∃ up, Ev (fun k => level_Levels.f k n s t l f least) (up, 0) ∧ IsUp n s l (roomOf l f) least up := by
 have h1 := R.n2
 have h2 := R.n500
 have h3 := R.s1
 have h4 := R.sn
 have h5 := R.len
 have hlen : (roomOf l f).length = 2 * l.length := roomOf_len F.1.len
 have hlvl : ((List.replicate (n + 1).toNat (-1)).length : Int) = n + 1 := by rw [List.length_replicate]; omega
 have hrep : ∀ v, 0 ≤ v → v ≤ n → rd (List.replicate (n + 1).toNat (-1)) v = -1 := fun v v0 vn => by
  have : v.toNat < (n + 1).toNat := by omega
  simp [rd, this]
 have hrs : ∀ v, 0 ≤ v → rd ((List.replicate (n + 1).toNat (-1)).set s.toNat 0) v = if s = v then 0 else rd (List.replicate (n + 1).toNat (-1)) v := fun v v0 => rd_set (by omega) (by omega) v0
 have hcn : cntM ((List.replicate (n + 1).toNat (-1)).set s.toNat 0) + 1 = (n + 1).toNat := by
  have := cntM_set (x := 0) (by decide) (m := List.replicate (n + 1).toNat (-1)) (i := s.toNat) (by rw [List.length_replicate]; omega) (by simp)
  rw [cntM_replicate] at this
  exact this
 have hts : ∀ v, 0 ≤ v → v ≤ n → ∀ r, r ∈ (Go.Proofs.YtbppeffcikphcaaW.Mine.trAll (lvFrom l) (n + 1).toNat (roomOf l f).length).getD v.toNat [] ↔ InR l r ∧ fromOf l r = v := fun v v0 vn r => by
  obtain ⟨x, hx, hr⟩ := tracks_at (fr := lvFrom l) (m := (n + 1).toNat) (roomOf l f).length v.toNat (by omega)
  rw [List.getD_eq_getElem?_getD, hx]
  show r ∈ x ↔ _
  rw [← hr r]
  have e : lvFrom l r = fromOf l r := rfl
  rw [e, hlen]
  constructor
  ·rintro ⟨a, b, c⟩
   have hi : InR l r := ⟨a, by omega⟩
   have := ends_range R.arcs hi
   exact ⟨hi, by omega⟩
  ·rintro ⟨a, b⟩
   have := a.1
   have := a.2
   exact ⟨a.1, by omega, by omega⟩
 have I : Inv n s l (roomOf l f) least 1 ((List.replicate (n + 1).toNat (-1)).set s.toNat 0) [s] := by
  refine ⟨by omega, by omega, fun _ => by omega, by rw [List.length_set]; exact hlvl, by rw [hrs s (by omega), if_pos rfl], fun v v0 vn => ?_, fun v => ?_, fun v v0 vn h => ?_, by rw [hrs 0 (by omega), if_neg (by omega)]; exact hrep 0 (by omega) (by omega), fun r hr _ h hlt => by omega, fun v v0 vn h => ?_⟩
  ·rw [hrs v v0]
   split
   ·exact .inr ⟨by omega, by omega, by omega⟩
   ·exact .inl (hrep v v0 vn)
  ·rw [List.mem_singleton]
   constructor
   ·rintro rfl
    exact ⟨by omega, h4, by rw [hrs _ (by omega), if_pos rfl]; rfl⟩
   ·rintro ⟨v0, vn, h⟩
    rw [hrs v v0] at h
    by_cases c : s = v
    ·exact c.symm
    ·rw [if_neg c, hrep v v0 vn] at h
     omega
  ·rw [hrs v v0] at h
   by_cases c : s = v
   ·exact c.symm
   ·rw [if_neg c, hrep v v0 vn] at h
    omega
  ·rw [hrs v v0] at h
   by_cases c : s = v
   ·rw [if_pos c] at h; omega
   ·rw [if_neg c, hrep v v0 vn] at h
    omega
 obtain ⟨up, hup, U⟩ := turns_ev R.arcs h2 hts _ _ _ _ (Nat.le_refl _) I
 refine ⟨up, ?_, U⟩
 have hfit : lvFit n s l (roomOf l f) = true := by
  simp only [lvFit, Bool.and_eq_true, decide_eq_true_eq, List.all_eq_true]
  refine ⟨⟨by omega, by omega, by omega, h4, h5, hlen⟩, fun a ha => ?_⟩
  obtain ⟨g0, g1, g2, g3, _⟩ := R.arcs a ha
  omega
 unfold level_Levels.f
 refine Ev.bind (room_ev R F) ?_
 simp only [if_true, if_neg (show ¬ least < 1 by omega), hfit]
 exact Ev.bind hup (Ev.now _)
def ld (l : List S49) (room : List Int) (least : Int) (up : List Int) : Nat → List Int
 | 0 => []
 | i + 1 => ld l room least up i ++ (if least ≤ rd room (i : Int) ∧ rd up (fromOf l (i : Int)) ≠ -1 ∧ rd up (toOf l (i : Int)) = rd up (fromOf l (i : Int)) + 1 then [(i : Int)] else [])
theorem ld_len {l : List S49} {room up : List Int} {least : Int} : ∀ m : Nat, (ld l room least up m).length ≤ m
 | 0 => Nat.le_refl _
 | m + 1 => by
  have := ld_len (l := l) (room := room) (up := up) (least := least) m
  rw [ld, List.length_append]
  split <;> simp <;> omega
section
variable {n s t least : Int} {l : List S49} {f up : List Int}
theorem leads_loop (R : Right n s t l) (F : IsFlow n s t l f) (U : IsUp n s l (roomOf l f) least up) (d : Nat) : ∀ i : Nat, i + d = (roomOf l f).length →
  Ev (fun k => level_Leads.l0 k least up (ld l (roomOf l f) least up i) (roomOf l f) ((roomOf l f).length : Int) (i : Int) n s t l) (ld l (roomOf l f) least up (roomOf l f).length, 0) := by
 have hlen : (roomOf l f).length = 2 * l.length := roomOf_len F.1.len
 have h5 := R.len
 have hn := R.n500
 induction d with
 | zero =>
  intro i hi
  have e : i = (roomOf l f).length := by omega
  subst e
  refine Ev.step (f := fun _ => some (ld l (roomOf l f) least up (roomOf l f).length, 0)) (fun k => ?_) (Ev.now _)
  simp only [level_Leads.l0]
  rw [if_neg (by omega)]
 | succ d ih =>
  intro i hi
  have hr : InR l (i : Int) := ⟨by omega, by omega⟩
  obtain ⟨f1, fn, t1, tn⟩ := ends_range R.arcs hr
  have hul := U.len
  have hll := ld_len (l := l) (room := roomOf l f) (up := up) (least := least) i
  have hnext := ih (i + 1) (by omega)
  refine Ev.step (f := ?g) (fun k => ?h) ?e
  case h =>
   simp only [level_Leads.l0]
   rw [if_pos (by omega), if_pos (by omega), if_pos (by omega)]
  case e =>
   refine Ev.bind (ends_ev hr h5) ?_
   simp only
   have hw : wrap64 ((i : Int) + 1) = ((i + 1 : Nat) : Int) := wrap_succ (by omega)
   rw [hw]
   by_cases c : least ≤ rd (roomOf l f) (i : Int) ∧ rd up (fromOf l (i : Int)) ≠ -1 ∧ rd up (toOf l (i : Int)) = rd up (fromOf l (i : Int)) + 1
   ·have e : ld l (roomOf l f) least up (i + 1) = ld l (roomOf l f) least up i ++ [(i : Int)] := by rw [ld, if_pos c]
    have hrg := U.rng (fromOf l (i : Int)) (by omega) fn
    have hw2 : wrap64 (rd up (fromOf l (i : Int)) + 1) = rd up (fromOf l (i : Int)) + 1 := wrap_id (by omega) (by omega)
    refine Ev.congr (fun k => ?_) hnext
    rw [if_pos c.1, if_pos (by omega), if_pos (by omega), if_neg c.2.1, if_pos (by omega), if_pos (by omega), if_pos (by rw [hw2]; exact c.2.2), if_pos (by omega), e]
   ·have e : ld l (roomOf l f) least up (i + 1) = ld l (roomOf l f) least up i := by rw [ld, if_neg c, List.append_nil]
    refine Ev.congr (fun k => ?_) hnext
    rw [e]
    by_cases c1 : least ≤ rd (roomOf l f) (i : Int)
    ·rw [if_pos c1, if_pos (by omega), if_pos (by omega)]
     by_cases c2 : rd up (fromOf l (i : Int)) = -1
     ·rw [if_pos c2]
     ·have hrg := U.rng (fromOf l (i : Int)) (by omega) fn
      have hw2 : wrap64 (rd up (fromOf l (i : Int)) + 1) = rd up (fromOf l (i : Int)) + 1 := wrap_id (by omega) (by omega)
      rw [if_neg c2, if_pos (by omega), if_pos (by omega), if_neg (fun h => c ⟨c1, c2, by rw [hw2] at h; exact h⟩)]
    ·rw [if_neg c1]
theorem leads_ev (R : Right n s t l) (F : IsFlow n s t l f) (hup : Ev (fun k => level_Levels.f k n s t l f least) (up, 0)) (U : IsUp n s l (roomOf l f) least up) :
  Ev (fun k => level_Leads.f k n s t l f least) (ld l (roomOf l f) least up (2 * l.length), 0) := by
 have hlen : (roomOf l f).length = 2 * l.length := roomOf_len F.1.len
 unfold level_Leads.f
 refine Ev.bind hup ?_
 simp only [if_true]
 refine Ev.bind (room_ev R F) ?_
 have := leads_loop R F U (roomOf l f).length 0 (by omega)
 rw [← hlen]
 exact this
end
theorem deep_ev {n s t least : Int} {l : List S49} {f up room : List Int} (R : Right n s t l) (hup : Ev (fun k => level_Levels.f k n s t l f least) (up, 0)) (U : IsUp n s l room least up) : Ev (fun k => level_Deep.f k n s t l f least) (rd up t, 0) := by
 have h1 := R.t1
 have h2 := R.tn
 have h3 := U.len
 unfold level_Deep.f
 refine Ev.bind hup ?_
 refine Ev.congr (fun k => ?_) (Ev.now (rd up t, (0 : Int)))
 simp only [if_true]
 rw [if_pos (by omega), if_pos (by omega)]
theorem rdB_set {m : List Bool} {q v : Int} {b : Bool} (q0 : 0 ≤ q) (q1 : q < (m.length : Int)) (v0 : 0 ≤ v) : rdOf false (m.set q.toNat b) v = if q = v then b else rdOf false m v := by
 unfold rdOf
 rw [List.getD_eq_getElem?_getD, List.getD_eq_getElem?_getD, List.getElem?_set]
 by_cases e : q = v
 ·subst e
  rw [if_pos rfl, if_pos (by omega), if_pos rfl]; rfl
 ·rw [if_neg (by omega), if_neg e]
def cntB : List Bool → Nat
 | [] => 0
 | x :: t => (if x = false then 1 else 0) + cntB t
theorem cntB_set : ∀ {m : List Bool} {i : Nat} (h : i < m.length), m[i] = false → cntB (m.set i true) + 1 = cntB m
 | [], i, h, _ => absurd h (by simp)
 | y :: t, 0, _, hy => by
  have hy : y = false := hy
  subst hy
  simp only [List.set_cons_zero, cntB, if_true]
  simp
  omega
 | y :: t, i + 1, h, hy => by
  have h1 : i < t.length := by simpa using h
  have ih := cntB_set h1 (by simpa using hy)
  simp only [List.set_cons_succ, cntB]
  omega
structure IsMet (n s : Int) (l : List S49) (room : List Int) (least : Int) (met : List Bool) : Prop where
 len : (met.length : Int) = n + 1
 src : rdOf false met s = true
 step : ∀ r, InR l r → least ≤ rd room r → rdOf false met (fromOf l r) = true → rdOf false met (toOf l r) = true
 min : ∀ P : Int → Prop, P s → (∀ r, InR l r → least ≤ rd room r → P (fromOf l r) → P (toOf l r)) → ∀ v, 0 ≤ v → v ≤ n → rdOf false met v = true → P v
structure RInv (n s : Int) (l : List S49) (room : List Int) (least : Int) (ts : List (List Int)) (met : List Bool) (wait : List Int) : Prop where
 len : (met.length : Int) = n + 1
 tlen : ts.length = met.length
 cnt : wait.length + cntB met ≤ met.length
 src : rdOf false met s = true
 wtd : ∀ v ∈ wait, 1 ≤ v ∧ v ≤ n ∧ rdOf false met v = true
 trk : ∀ v, 1 ≤ v → v ≤ n → ∀ r ∈ ts.getD v.toNat [], InR l r ∧ fromOf l r = v
 done : ∀ r, InR l r → least ≤ rd room r → r ∉ ts.getD (fromOf l r).toNat [] → rdOf false met (toOf l r) = true
 all : ∀ r, InR l r → least ≤ rd room r → rdOf false met (fromOf l r) = true → fromOf l r ∉ wait → rdOf false met (toOf l r) = true
 min : ∀ P : Int → Prop, P s → (∀ r, InR l r → least ≤ rd room r → P (fromOf l r) → P (toOf l r)) → ∀ v, 0 ≤ v → v ≤ n → rdOf false met v = true → P v
section
variable {n s least : Int} {l : List S49} {room : List Int}
end
theorem chk_inv {n : Int} : ∀ {l : List S49} {s : Int}, chkArcs n l s = some 0 → s ≤ 4611686018427387903 → (∀ a ∈ l, GoodArc n a) ∧ s + sumCap l ≤ 4611686018427387903
 | [], s, _, h1 => ⟨fun a h => by (cases h), by simp only [sumCap]; omega⟩
 | a :: t, s, h, h1 => by
  simp only [chkArcs] at h
  by_cases c0 : -9223372036854775808 ≤ a.f2 ∧ a.f2 ≤ 9223372036854775807
  ·rw [if_pos c0] at h
   by_cases c1 : 1 ≤ a.f0 ∧ a.f0 ≤ n ∧ 1 ≤ a.f1 ∧ a.f1 ≤ n
   ·rw [if_pos c1] at h
    by_cases c2 : a.f2 < 0
    ·rw [if_pos c2] at h
     exact absurd (Option.some.inj h) (by decide)
    ·rw [if_neg c2] at h
     by_cases c3 : 4611686018427387903 < s + a.f2
     ·rw [if_pos c3] at h
      exact absurd (Option.some.inj h) (by decide)
     ·rw [if_neg c3] at h
      obtain ⟨i1, i2⟩ := chk_inv h (by omega)
      refine ⟨fun b hb => ?_, by simp only [sumCap]; omega⟩
      rcases List.mem_cons.1 hb with rfl | hb
      ·exact ⟨c1.1, c1.2.1, c1.2.2.1, c1.2.2.2, by omega⟩
      ·exact i1 b hb
   ·rw [if_neg c1] at h
    exact absurd (Option.some.inj h) (by decide)
  ·rw [if_neg c0] at h
   cases h
theorem right_of {n s t : Int} {l : List S49} (h : net_Check.f n s t l = some 0) : Right n s t l := by
 unfold net_Check.f at h
 by_cases c0 : n < 2 ∨ 500 < n
 ·rw [if_pos c0] at h
  exact absurd (Option.some.inj h) (by decide)
 ·rw [if_neg c0] at h
  by_cases c1 : 1 ≤ s ∧ s ≤ n ∧ 1 ≤ t ∧ t ≤ n
  ·rw [if_neg (fun h => h c1)] at h
   by_cases c2 : s = t
   ·rw [if_pos c2] at h
    exact absurd (Option.some.inj h) (by decide)
   ·rw [if_neg c2] at h
    by_cases c3 : 2000 < l.length
    ·rw [if_pos c3] at h
     exact absurd (Option.some.inj h) (by decide)
    ·rw [if_neg c3] at h
     obtain ⟨i1, i2⟩ := chk_inv h (by decide)
     exact ⟨by omega, by omega, c1.1, c1.2.1, c1.2.2.1, c1.2.2.2, c2, by omega, i1, by omega⟩
  ·rw [if_pos c1] at h
   exact absurd (Option.some.inj h) (by decide)
theorem ref3_loop {n s t : Int} {l : List S49} (hw : ∀ a ∈ l, -9223372036854775808 ≤ a.f2 ∧ a.f2 ≤ 9223372036854775807) (hl : l.length ≤ 2000) (d : Nat) :
  ∀ (i : Nat) (u : Int), i + d = l.length → 0 ≤ u → u ≤ 4611686018427387903 → ∃ e, chkArcs n (l.drop i) u = some e ∧ Ev (fun k => q3_Check.l0 k (4611686018427387903 - u) (i : Int) n s t l) e := by
 induction d with
 | zero =>
  intro i u hi _ _
  refine ⟨0, by rw [List.drop_of_length_le (by omega)]; rfl, Ev.step (f := fun _ => some 0) (fun k => ?_) (Ev.now _)⟩
  simp only [q3_Check.l0]
  rw [if_neg (by omega)]
 | succ d ih =>
  intro i u hi u0 u1
  have hil : i < l.length := by omega
  have hwa := hw l[i] (List.getElem_mem hil)
  have hs : ∀ k, q3_Check.l0 (k + 1) (4611686018427387903 - u) (i : Int) n s t l = q3_Check.j3 k (4611686018427387903 - u) (i : Int) (decide (¬ (1 ≤ (l[i]).f0 ∧ (l[i]).f0 ≤ n ∧ 1 ≤ (l[i]).f1 ∧ (l[i]).f1 ≤ n))) n s t l (l[i]).f0 (l[i]).f1 (l[i]).f2 := fun k => by
   simp only [q3_Check.l0]
   rw [if_pos (by omega), if_pos (by omega), rdT_get hil]
   by_cases c0 : (l[i]).f0 < 1
   ·rw [if_pos c0, decide_eq_true (by omega)]
   ·rw [if_neg c0]
    by_cases c1 : (l[i]).f0 > n
    ·rw [if_pos c1, decide_eq_true (by omega)]
    ·rw [if_neg c1]
     by_cases c2 : (l[i]).f1 < 1
     ·rw [if_pos c2, decide_eq_true (by omega)]
     ·rw [if_neg c2]
      have : decide ((l[i]).f1 > n) = decide (¬ (1 ≤ (l[i]).f0 ∧ (l[i]).f0 ≤ n ∧ 1 ≤ (l[i]).f1 ∧ (l[i]).f1 ≤ n)) := decide_eq_decide.2 (by omega)
      rw [this]
  rw [List.drop_eq_getElem_cons hil]
  simp only [chkArcs]
  rw [if_pos hwa]
  by_cases c1 : 1 ≤ (l[i]).f0 ∧ (l[i]).f0 ≤ n ∧ 1 ≤ (l[i]).f1 ∧ (l[i]).f1 ≤ n
  ·rw [if_pos c1]
   rw [decide_eq_false (fun h => h c1)] at hs
   by_cases c2 : (l[i]).f2 < 0
   ·refine ⟨3, by rw [if_pos c2], Ev.step hs (Ev.step (f := fun _ => some 3) (fun k => ?_) (Ev.now _))⟩
    simp only [q3_Check.j3]
    rw [if_neg (by decide), if_pos c2]
   ·rw [if_neg c2]
    by_cases c3 : 4611686018427387903 < u + (l[i]).f2
    ·refine ⟨7, by rw [if_pos c3], Ev.step hs (Ev.step (f := fun _ => some 7) (fun k => ?_) (Ev.now _))⟩
     simp only [q3_Check.j3]
     rw [if_neg (by decide), if_neg c2, if_pos (by omega)]
    ·obtain ⟨e, he, hE⟩ := ih (i + 1) (u + (l[i]).f2) (by omega) (by omega) (by omega)
     refine ⟨e, by rw [if_neg c3]; exact he, Ev.step hs (Ev.step (fun k => ?_) hE)⟩
     simp only [q3_Check.j3]
     rw [if_neg (by decide), if_neg c2, if_neg (by omega), wrap_id (x := 4611686018427387903 - u - (l[i]).f2) (by omega) (by omega), wrap_id (x := (i : Int) + 1) (by omega) (by omega), show 4611686018427387903 - u - (l[i]).f2 = 4611686018427387903 - (u + (l[i]).f2) by omega]
     rfl
  ·refine ⟨4, by rw [if_neg c1], Ev.step hs (Ev.step (f := fun _ => some 4) (fun k => ?_) (Ev.now _))⟩
   rw [decide_eq_true c1]
   simp only [q3_Check.j3]
   rw [if_pos (by trivial)]
theorem ref3_ev {n s t : Int} {l : List S49} (hw : ∀ a ∈ l, -9223372036854775808 ≤ a.f2 ∧ a.f2 ≤ 9223372036854775807) :
  ∃ e, net_Check.f n s t l = some e ∧ Ev (fun k => q3_Check.f k n s t l) e := by
 have h0 : ∀ k, q3_Check.f k n s t l = q3_Check.j0 k (decide (n < 2 ∨ 500 < n)) n s t l := fun k => by
  unfold q3_Check.f
  by_cases c : n < 2
  ·rw [if_pos c, decide_eq_true (.inl c)]
  ·rw [if_neg c]
   have : decide (n > 500) = decide (n < 2 ∨ 500 < n) := decide_eq_decide.2 (by omega)
   rw [this]
 unfold net_Check.f
 by_cases c0 : n < 2 ∨ 500 < n
 ·refine ⟨3, by rw [if_pos c0], Ev.congr h0 (Ev.step (f := fun _ => some 3) (fun k => ?_) (Ev.now _))⟩
  rw [decide_eq_true c0]
  simp only [q3_Check.j0]
  rw [if_pos (by trivial)]
 ·rw [if_neg c0]
  rw [decide_eq_false c0] at h0
  have h1 : ∀ k, q3_Check.j0 (k + 1) false n s t l = q3_Check.j1 k (decide (¬ (1 ≤ s ∧ s ≤ n ∧ 1 ≤ t ∧ t ≤ n))) n s t l := fun k => by
   simp only [q3_Check.j0]
   rw [if_neg (by decide)]
   by_cases c1 : s < 1
   ·rw [if_pos c1, decide_eq_true (by omega)]
   ·rw [if_neg c1]
    by_cases c2 : s > n
    ·rw [if_pos c2, decide_eq_true (by omega)]
    ·rw [if_neg c2]
     by_cases c3 : t < 1
     ·rw [if_pos c3, decide_eq_true (by omega)]
     ·rw [if_neg c3]
      have : decide (t > n) = decide (¬ (1 ≤ s ∧ s ≤ n ∧ 1 ≤ t ∧ t ≤ n)) := decide_eq_decide.2 (by omega)
      rw [this]
  by_cases c1 : 1 ≤ s ∧ s ≤ n ∧ 1 ≤ t ∧ t ≤ n
  ·rw [if_neg (fun h => h c1)]
   rw [decide_eq_false (fun h => h c1)] at h1
   by_cases c2 : s = t
   ·refine ⟨5, by rw [if_pos c2], Ev.congr h0 (Ev.step h1 (Ev.step (f := fun _ => some 5) (fun k => ?_) (Ev.now _)))⟩
    simp only [q3_Check.j1]
    rw [if_neg (by decide), if_pos c2]
   ·rw [if_neg c2]
    by_cases c3 : 2000 < l.length
    ·refine ⟨6, by rw [if_pos c3], Ev.congr h0 (Ev.step h1 (Ev.step (f := fun _ => some 6) (fun k => ?_) (Ev.now _)))⟩
     simp only [q3_Check.j1]
     rw [if_neg (by decide), if_neg c2, if_pos (by omega)]
    ·rw [if_neg c3]
     obtain ⟨e, he, hE⟩ := ref3_loop (n := n) (s := s) (t := t) hw (by omega) l.length 0 0 (by omega) (by decide) (by decide)
     refine ⟨e, he, Ev.congr h0 (Ev.step h1 (Ev.step (fun k => ?_) hE))⟩
     simp only [q3_Check.j1]
     rw [if_neg (by decide), if_neg c2, if_neg (by omega)]
     rfl
  ·rw [if_pos c1]
   refine ⟨4, rfl, Ev.congr h0 (Ev.step h1 (Ev.step (f := fun _ => some 4) (fun k => ?_) (Ev.now _)))⟩
   rw [decide_eq_true c1]
   simp only [q3_Check.j1]
   rw [if_pos (by trivial)]
theorem w5_loop {n s t : Int} {l : List S49} {f : List Int} (W : Within l f) (hl : l.length ≤ 2000) (d : Nat) : ∀ i : Nat, i + d = f.length → Ev (fun k => q5_within.l0 k f (i : Int) n s t l) 0 := by
 have hlen := W.len
 induction d with
 | zero =>
  intro i hi
  refine Ev.step (f := fun _ => some 0) (fun k => ?_) (Ev.now _)
  simp only [q5_within.l0]
  rw [if_neg (by omega)]
 | succ d ih =>
  intro i hi
  have hif : i < f.length := by omega
  have hil : i < l.length := by omega
  have hb := W.get i hil hif
  refine Ev.step (fun k => ?_) (ih (i + 1) (by omega))
  simp only [q5_within.l0]
  rw [if_pos (by omega), if_pos (by omega), rd_get hif, rdT_get hil, if_neg (by omega), if_pos (by omega), if_neg (by omega), wrap_id (by omega) (by omega)]
  rfl
theorem w5_bad {n s t : Int} {l : List S49} {f : List Int} (hlen : f.length = l.length) (hl : l.length ≤ 2000) (d : Nat) : ∀ i : Nat, i + d = f.length → (∃ j, i ≤ j ∧ ∃ (h : j < l.length) (h' : j < f.length), ¬ (0 ≤ f[j] ∧ f[j] ≤ (l[j]).f2)) →
  Ev (fun k => q5_within.l0 k f (i : Int) n s t l) 3 := by
 induction d with
 | zero =>
  intro i hi ⟨j, h1, h2, h3, _⟩
  omega
 | succ d ih =>
  intro i hi ⟨j, h1, h2, h3, h4⟩
  have hif : i < f.length := by omega
  have hil : i < l.length := by omega
  by_cases c0 : f[i] < 0
  ·refine Ev.step (f := fun _ => some 3) (fun k => ?_) (Ev.now _)
   simp only [q5_within.l0]
   rw [if_pos (by omega), if_pos (by omega), rd_get hif, if_pos c0]
  ·by_cases c1 : f[i] > (l[i]).f2
   ·refine Ev.step (f := fun _ => some 3) (fun k => ?_) (Ev.now _)
    simp only [q5_within.l0]
    rw [if_pos (by omega), if_pos (by omega), rd_get hif, rdT_get hil, if_neg c0, if_pos (by omega), if_pos c1]
   ·have hne : i ≠ j := by
     rintro rfl
     exact h4 ⟨by omega, by omega⟩
    refine Ev.step (fun k => ?_) (ih (i + 1) (by omega) ⟨j, by omega, h2, h3, h4⟩)
    simp only [q5_within.l0]
    rw [if_pos (by omega), if_pos (by omega), rd_get hif, rdT_get hil, if_neg c0, if_pos (by omega), if_neg c1, wrap_id (by omega) (by omega)]
    rfl
theorem w5_yes {n s t : Int} {l : List S49} {f : List Int} (R : Right n s t l) (hr : Ev (fun k => q3_Check.f k n s t l) 0) (W : Within l f) : Ev (fun k => q5_within.f k n s t l f) 0 := by
 have hlen := W.len
 unfold q5_within.f
 refine Ev.bind hr ?_
 simp only [if_true]
 refine Ev.congr (fun k => ?_) (w5_loop (n := n) (s := s) (t := t) W R.len f.length 0 (by omega))
 rw [if_pos (by omega)]
 rfl
theorem w5_no {n s t : Int} {l : List S49} {f : List Int} (R : Right n s t l) (hr : Ev (fun k => q3_Check.f k n s t l) 0) (hlen : f.length = l.length) (W : ¬ Within l f) : Ev (fun k => q5_within.f k n s t l f) 3 := by
 have hex : ∃ j, 0 ≤ j ∧ ∃ (h : j < l.length) (h' : j < f.length), ¬ (0 ≤ f[j] ∧ f[j] ≤ (l[j]).f2) := by
  apply Classical.byContradiction
  intro hn
  refine W (Within.of hlen fun i h h' => ?_)
  apply Classical.byContradiction
  intro hb
  exact hn ⟨i, Nat.zero_le _, h, h', hb⟩
 unfold q5_within.f
 refine Ev.bind hr ?_
 simp only [if_true]
 refine Ev.congr (fun k => ?_) (w5_bad (n := n) (s := s) (t := t) hlen R.len f.length 0 (by omega) hex)
 rw [if_pos (by omega)]
 rfl
theorem w5_count {n s t : Int} {l : List S49} {f : List Int} (hr : Ev (fun k => q3_Check.f k n s t l) 0) (hlen : f.length ≠ l.length) : Ev (fun k => q5_within.f k n s t l f) 6 := by
 unfold q5_within.f
 refine Ev.bind hr ?_
 simp only [if_true]
 refine Ev.congr (f := fun _ => some 6) (fun k => ?_) (Ev.now _)
 rw [if_neg (by omega)]
theorem exc5_loop {n s t v : Int} {l : List S49} {f : List Int} (hf : ∀ x ∈ f, 0 ≤ x) (hlen : f.length = l.length) (hS : sumL f ≤ 4611686018427387903) (hl : l.length ≤ 2000) (d : Nat) :
  ∀ (i : Nat) (acc : Int), i + d = l.length → -(sumL f - sumL (f.drop i)) ≤ acc → acc ≤ sumL f - sumL (f.drop i) →
   Ev (fun k => q5_excess.l0 k f v acc (i : Int) n s t l) (acc + exc (l.drop i) (f.drop i) v) := by
 induction d with
 | zero =>
  intro i acc hi _ _
  refine Ev.step (f := fun _ => some (acc + exc (l.drop i) (f.drop i) v)) (fun k => ?_) (Ev.now _)
  simp only [q5_excess.l0]
  rw [if_neg (by omega), List.drop_of_length_le (show l.length ≤ i by omega), exc_nil, Int.add_zero]
 | succ d ih =>
  intro i acc hi b0 b1
  have hil : i < l.length := by omega
  have hif : i < f.length := by omega
  have hx0 := hf f[i] (List.getElem_mem hif)
  have hsd := sumL_drop hif
  have hsn := sumL_nonneg (g := f.drop (i + 1)) (fun x hx => hf x (List.mem_of_mem_drop hx))
  have hw : wrap64 ((i : Int) + 1) = ((i + 1 : Nat) : Int) := wrap_id (by omega) (by omega)
  rw [List.drop_eq_getElem_cons hil, List.drop_eq_getElem_cons hif]
  simp only [exc]
  by_cases c1 : (l[i]).f1 = v
  ·have e1 : wrap64 (acc + f[i]) = acc + f[i] := wrap_id (by omega) (by omega)
   by_cases c0 : (l[i]).f0 = v
   ·have e2 : wrap64 (acc + f[i] - f[i]) = acc := by rw [show acc + f[i] - f[i] = acc by omega]; exact wrap_id (by omega) (by omega)
    have h := ih (i + 1) acc (by omega) (by omega) (by omega)
    rw [if_pos c1, if_pos c0, show acc + (f[i] - f[i] + exc (l.drop (i + 1)) (f.drop (i + 1)) v) = acc + exc (l.drop (i + 1)) (f.drop (i + 1)) v by omega]
    refine Ev.step (fun k => ?_) h
    simp only [q5_excess.l0]
    rw [if_pos (by omega), if_pos (by omega), rdT_get hil, rd_get hif, if_pos c1, if_pos (by omega), if_pos c0, e1, e2, hw]
   ·have h := ih (i + 1) (acc + f[i]) (by omega) (by omega) (by omega)
    rw [if_pos c1, if_neg c0, show acc + (f[i] - 0 + exc (l.drop (i + 1)) (f.drop (i + 1)) v) = acc + f[i] + exc (l.drop (i + 1)) (f.drop (i + 1)) v by omega]
    refine Ev.step (fun k => ?_) h
    simp only [q5_excess.l0]
    rw [if_pos (by omega), if_pos (by omega), rdT_get hil, rd_get hif, if_pos c1, if_pos (by omega), if_neg c0, e1, hw]
  ·by_cases c0 : (l[i]).f0 = v
   ·have e1 : wrap64 (acc - f[i]) = acc - f[i] := wrap_id (by omega) (by omega)
    have h := ih (i + 1) (acc - f[i]) (by omega) (by omega) (by omega)
    rw [if_neg c1, if_pos c0, show acc + (0 - f[i] + exc (l.drop (i + 1)) (f.drop (i + 1)) v) = acc - f[i] + exc (l.drop (i + 1)) (f.drop (i + 1)) v by omega]
    refine Ev.step (fun k => ?_) h
    simp only [q5_excess.l0]
    rw [if_pos (by omega), if_pos (by omega), rdT_get hil, rd_get hif, if_neg c1, if_pos c0, if_pos (by omega), e1, hw]
   ·have h := ih (i + 1) acc (by omega) (by omega) (by omega)
    rw [if_neg c1, if_neg c0, show acc + (0 - 0 + exc (l.drop (i + 1)) (f.drop (i + 1)) v) = acc + exc (l.drop (i + 1)) (f.drop (i + 1)) v by omega]
    refine Ev.step (fun k => ?_) h
    simp only [q5_excess.l0]
    rw [if_pos (by omega), if_pos (by omega), rdT_get hil, if_neg c1, if_neg c0, hw]
theorem exc5_ev {n s t v : Int} {l : List S49} {f : List Int} (R : Right n s t l) (W : Within l f) : Ev (fun k => q5_excess.f k n s t l f v) (exc l f v) := by
 have hs := W.sum
 have hR := R.sum
 have h := exc5_loop (n := n) (s := s) (t := t) (v := v) W.nonneg W.len (by omega) R.len l.length 0 0 (by omega) (by rw [List.drop_zero]; omega) (by rw [List.drop_zero]; omega)
 rw [List.drop_zero, List.drop_zero, Int.zero_add] at h
 exact h
theorem c5_loop {n s t : Int} {l : List S49} {f : List Int} (R : Right n s t l) (W : Within l f) (d : Nat) : ∀ i : Nat, (i : Int) + d = n → (∀ v, (i : Int) < v → v ≤ n → v ≠ s → v ≠ t → exc l f v = 0) →
  Ev (fun k => q5_Check.l0 k f ((i : Int) + 1) n s t l) 0 := by
 have hn := R.n500
 induction d with
 | zero =>
  intro i hi _
  refine Ev.step (f := fun _ => some 0) (fun k => ?_) (Ev.now _)
  simp only [q5_Check.l0]
  rw [if_neg (by omega)]
 | succ d ih =>
  intro i hi hz
  have hnext := ih (i + 1) (by omega) (fun v h1 h2 h3 h4 => hz v (by omega) h2 h3 h4)
  have hw : wrap64 ((i : Int) + 1 + 1) = ((i + 1 : Nat) : Int) + 1 := wrap_id (by omega) (by omega)
  by_cases c1 : (i : Int) + 1 = s
  ·refine Ev.step (fun k => ?_) hnext
   simp only [q5_Check.l0]
   rw [if_pos (by omega), if_pos c1, hw]
  ·by_cases c2 : (i : Int) + 1 = t
   ·refine Ev.step (fun k => ?_) hnext
    simp only [q5_Check.l0]
    rw [if_pos (by omega), if_neg c1, if_pos c2, hw]
   ·refine Ev.step (f := ?g) (fun k => ?h) ?e
    case h =>
     simp only [q5_Check.l0]
     rw [if_pos (by omega), if_neg c1, if_neg c2, hw]
    case e =>
     refine Ev.bind (exc5_ev R W) ?_
     exact Ev.congr (fun k => if_pos (hz _ (by omega) (by omega) c1 c2)) hnext
theorem c5_bad {n s t : Int} {l : List S49} {f : List Int} (R : Right n s t l) (W : Within l f) (d : Nat) : ∀ i : Nat, (i : Int) + d = n → (∃ v, (i : Int) < v ∧ v ≤ n ∧ v ≠ s ∧ v ≠ t ∧ exc l f v ≠ 0) →
  Ev (fun k => q5_Check.l0 k f ((i : Int) + 1) n s t l) 9 := by
 have hn := R.n500
 induction d with
 | zero => intro i hi ⟨v, h1, h2, _⟩; omega
 | succ d ih =>
  intro i hi ⟨v, h1, h2, h3, h4, h5⟩
  have hw : wrap64 ((i : Int) + 1 + 1) = ((i + 1 : Nat) : Int) + 1 := wrap_id (by omega) (by omega)
  by_cases c1 : (i : Int) + 1 = s
  ·refine Ev.step (fun k => ?_) (ih (i + 1) (by omega) ⟨v, by omega, h2, h3, h4, h5⟩)
   simp only [q5_Check.l0]
   rw [if_pos (by omega), if_pos c1, hw]
  ·by_cases c2 : (i : Int) + 1 = t
   ·refine Ev.step (fun k => ?_) (ih (i + 1) (by omega) ⟨v, by omega, h2, h3, h4, h5⟩)
    simp only [q5_Check.l0]
    rw [if_pos (by omega), if_neg c1, if_pos c2, hw]
   ·refine Ev.step (f := ?g2) (fun k => ?h2) ?e2
    case h2 =>
     simp only [q5_Check.l0]
     rw [if_pos (by omega), if_neg c1, if_neg c2, hw]
    case e2 =>
     refine Ev.bind (exc5_ev R W) ?_
     by_cases c3 : exc l f ((i : Int) + 1) = 0
     ·refine Ev.congr (fun k => if_pos c3) ?_
      exact ih (i + 1) (by omega) ⟨v, by
       by_cases e : v = (i : Int) + 1
       ·rw [e] at h5; exact absurd c3 h5
       ·omega, h2, h3, h4, h5⟩
     ·exact Ev.congr (fun k => if_neg c3) (Ev.now _)
theorem c5_flow {n s t : Int} {l : List S49} {f : List Int} (R : Right n s t l) (hr : Ev (fun k => q3_Check.f k n s t l) 0) (F : IsFlow n s t l f) : Ev (fun k => q5_Check.f k n s t l f) 0 := by
 have hn := R.n2
 unfold q5_Check.f
 refine Ev.bind (w5_yes R hr F.within) ?_
 simp only [if_true]
 exact c5_loop R F.within n.toNat 0 (by omega) (fun v h1 h2 h3 h4 => F.cons v (by omega) h2 h3 h4)
theorem check_both {n s t : Int} {l : List S49} {f : List Int} (hw : ∀ a ∈ l, -9223372036854775808 ≤ a.f2 ∧ a.f2 ≤ 9223372036854775807) :
  (∃ e, e ≠ 0 ∧ Ev (fun k => flow_Check.f k n s t l f) e ∧ Ev (fun k => q5_Check.f k n s t l f) e) ∨ Right n s t l ∧ IsFlow n s t l f ∧ Ev (fun k => q5_Check.f k n s t l f) 0 := by
 obtain ⟨e, he, hE⟩ := ref3_ev (n := n) (s := s) (t := t) hw
 by_cases c : e = 0
 ·subst c
  have R := right_of he
  have hn := R.n2
  by_cases hlen : f.length = l.length
  ·by_cases W : Within l f
   ·by_cases hx : ∃ v, 1 ≤ v ∧ v ≤ n ∧ v ≠ s ∧ v ≠ t ∧ exc l f v ≠ 0
    ·obtain ⟨v, v1, vn, vs, vt, hv⟩ := hx
     refine .inl ⟨9, by decide, check_state R W v1 vn vs vt hv, ?_⟩
     unfold q5_Check.f
     refine Ev.bind (w5_yes R hE W) ?_
     simp only [if_true]
     exact c5_bad R W n.toNat 0 (by omega) ⟨v, by omega, vn, vs, vt, hv⟩
    ·have F : IsFlow n s t l f := ⟨W, fun v v1 vn vs vt => by
      apply Classical.byContradiction
      intro h
      exact hx ⟨v, v1, vn, vs, vt, h⟩⟩
     exact .inr ⟨R, F, c5_flow R hE F⟩
   ·refine .inl ⟨3, by decide, check_range R hlen W, ?_⟩
    unfold q5_Check.f
    refine Ev.bind (w5_no R hE hlen W) ?_
    exact Ev.congr (fun k => if_neg (by decide)) (Ev.now 3)
  ·refine .inl ⟨6, by decide, ?_, ?_⟩
   ·unfold flow_Check.f
    refine Ev.bind (within_count R hlen) ?_
    exact Ev.congr (fun k => if_neg (by decide)) (Ev.now 6)
   ·unfold q5_Check.f
    refine Ev.bind (w5_count hE hlen) ?_
    exact Ev.congr (fun k => if_neg (by decide)) (Ev.now 6)
 ·refine .inl ⟨e, c, ?_, ?_⟩
  ·unfold flow_Check.f flow_within.f
   rw [he]
   simp only [Option.bind_some]
   refine Ev.congr (f := fun _ => some e) (fun k => ?_) (Ev.now _)
   rw [if_neg c]
   simp only [Option.bind_some]
   rw [if_neg c]
  ·unfold q5_Check.f q5_within.f
   refine Ev.bind (a := e) ?_ ?_
   ·refine Ev.bind hE ?_
    refine Ev.congr (f := fun _ => some e) (fun k => ?_) (Ev.now _)
    exact if_neg c
   ·exact Ev.congr (fun k => if_neg c) (Ev.now e)
theorem room_err {n s t e : Int} {l : List S49} {f : List Int} (he : e ≠ 0) (h : Ev (fun k => flow_Check.f k n s t l f) e) : Ev (fun k => residual_Room.f k n s t l f) ([], e) := by
 unfold residual_Room.f
 refine Ev.bind h ?_
 exact Ev.congr (fun k => if_neg he) (Ev.now _)
theorem room6_loop {n s t : Int} {l : List S49} {f : List Int} (hlen : f.length = l.length) (hl : l.length ≤ 2000) (d : Nat) :
  ∀ (i : Nat) (out : List Int), i + d = l.length → out.length ≤ 2 * i → Ev (fun k => q6_Room.l0 k f out (i : Int) n s t l) (out ++ roomOf (l.drop i) (f.drop i), 0) := by
 induction d with
 | zero =>
  intro i out hi _
  refine Ev.step (f := fun _ => some (out ++ roomOf (l.drop i) (f.drop i), 0)) (fun k => ?_) (Ev.now _)
  simp only [q6_Room.l0]
  rw [if_neg (by omega), List.drop_of_length_le (show l.length ≤ i by omega)]
  simp only [roomOf, List.append_nil]
 | succ d ih =>
  intro i out hi ho
  have hil : i < l.length := by omega
  have hif : i < f.length := by omega
  have h := ih (i + 1) (out ++ [wrap64 ((l[i]).f2 - f[i])] ++ [f[i]]) (by omega) (by simp; omega)
  have e : out ++ roomOf (l.drop i) (f.drop i) = out ++ [wrap64 ((l[i]).f2 - f[i])] ++ [f[i]] ++ roomOf (l.drop (i + 1)) (f.drop (i + 1)) := by
   rw [List.drop_eq_getElem_cons hil, List.drop_eq_getElem_cons hif]
   simp only [roomOf, List.append_assoc, List.cons_append, List.nil_append]
  rw [e]
  refine Ev.step (fun k => ?_) h
  simp only [q6_Room.l0]
  rw [if_pos (by omega), if_pos (by omega), if_pos (by omega), if_pos (by omega), rdT_get hil, rd_get hif]
  simp only [Option.bind_some]
  rw [if_pos (by simp; omega), wrap_id (x := (i : Int) + 1) (by omega) (by omega)]
  rfl
theorem room6_ev {n s t : Int} {l : List S49} {f : List Int} (R : Right n s t l) (F : IsFlow n s t l f) (h : Ev (fun k => q5_Check.f k n s t l f) 0) : Ev (fun k => q6_Room.f k n s t l f) (roomOf l f, 0) := by
 unfold q6_Room.f
 refine Ev.bind h ?_
 simp only [if_true]
 have h := room6_loop (n := n) (s := s) (t := t) F.within.len R.len l.length 0 [] (by omega) (by simp)
 rw [List.drop_zero, List.drop_zero, List.nil_append] at h
 exact h
theorem room6_err {n s t e : Int} {l : List S49} {f : List Int} (he : e ≠ 0) (h : Ev (fun k => q5_Check.f k n s t l f) e) : Ev (fun k => q6_Room.f k n s t l f) ([], e) := by
 unfold q6_Room.f
 refine Ev.bind h ?_
 exact Ev.congr (fun k => if_neg he) (Ev.now _)
theorem ends6_ev {n s t r : Int} {l : List S49} (h : InR l r) (hl : l.length ≤ 2000) : Ev (fun k => q6_Ends.f k n s t l r) (fromOf l r, toOf l r) := by
 obtain ⟨h0, h1⟩ := h
 have hd : wrap64 (Int.tdiv r 2) = r / 2 := by rw [tdiv2 h0, wrap_id (by omega) (by omega)]
 have hm : Int.tmod r 2 = r % 2 := Int.tmod_eq_emod_of_nonneg h0
 have e : Ev (fun k => q6_Ends.j0 k r (decide (r ≥ wrap64 (2 * (l.length : Int)))) n s t l) (fromOf l r, toOf l r) := by
  refine Ev.step (f := fun _ => some (fromOf l r, toOf l r)) (fun k => ?_) (Ev.now _)
  rw [wrap_id (x := 2 * (l.length : Int)) (by omega) (by omega), decide_eq_false (by omega)]
  simp only [q6_Ends.j0, hd, hm]
  rw [if_neg (by decide), if_pos (by omega), if_pos (by omega)]
  unfold fromOf toOf
  by_cases c : r % 2 = 1
  ·rw [if_pos c, if_pos c, if_pos c]
  ·rw [if_neg c, if_neg c, if_neg c]
 refine Ev.congr (fun k => ?_) e
 unfold q6_Ends.f
 rw [if_neg (by omega)]
section
variable {n s t least : Int} {l : List S49} {room : List Int}
structure SInv (n s : Int) (l : List S49) (room : List Int) (least : Int) (met : List Bool) : Prop where
 len : (met.length : Int) = n + 1
 src : rdOf false met s = true
 min : ∀ P : Int → Prop, P s → (∀ r, InR l r → least ≤ rd room r → P (fromOf l r) → P (toOf l r)) → ∀ v, 0 ≤ v → v ≤ n → rdOf false met v = true → P v
theorem rdB_get {m : List Bool} {v : Int} (h0 : 0 ≤ v) (h1 : v < (m.length : Int)) (h : v.toNat < m.length) : m[v.toNat] = rdOf false m v := by
 unfold rdOf
 rw [List.getD_eq_getElem?_getD, List.getElem?_eq_getElem h]; rfl
theorem scan6 (hg : ∀ a ∈ l, GoodArc n a) (hl : l.length ≤ 2000) (hroom : room.length = 2 * l.length) (hs : 0 ≤ s) (d : Nat) :
  ∀ (i : Nat) (m : List Bool) (b : Bool), i + d = room.length → SInv n s l room least m →
   ∃ m' b', (∀ e, Ev (fun k => q6_Reach.l0 k least room m' b' n s t l) e → Ev (fun k => q6_Reach.l1 k least room m b (i : Int) n s t l) e) ∧ SInv n s l room least m' ∧ cntB m' ≤ cntB m ∧
    (b' = true → b = true ∨ cntB m' < cntB m) ∧ (b = true → b' = true) ∧
    (b' = false → m' = m ∧ ∀ r, (i : Int) ≤ r → InR l r → least ≤ rd room r → rdOf false m (fromOf l r) = true → rdOf false m (toOf l r) = true) := by
 induction d with
 | zero =>
  intro i m b hi I
  refine ⟨m, b, fun e he => Ev.step (fun k => ?_) he, I, Nat.le_refl _, fun h => .inl h, fun h => h, fun _ => ⟨rfl, fun r h0 h1 => by have := h1.2; omega⟩⟩
  simp only [q6_Reach.l1]
  rw [if_neg (by omega)]
 | succ d ih =>
  intro i m b hi I
  have hr : InR l (i : Int) := ⟨by omega, by omega⟩
  obtain ⟨f1, fn, t1, tn⟩ := ends_range hg hr
  have hlen := I.len
  have hw : wrap64 ((i : Int) + 1) = ((i + 1 : Nat) : Int) := wrap_succ (by omega)
  by_cases c : least ≤ rd room (i : Int) ∧ rdOf false m (fromOf l (i : Int)) = true ∧ rdOf false m (toOf l (i : Int)) = false
  ·obtain ⟨ca, cb, cc⟩ := c
   have hst : ∀ v, 0 ≤ v → rdOf false (m.set (toOf l (i : Int)).toNat true) v = if toOf l (i : Int) = v then true else rdOf false m v := fun v v0 => rdB_set (by omega) (by omega) v0
   have hlt : (toOf l (i : Int)).toNat < m.length := by omega
   have hcnt := cntB_set hlt (by rw [rdB_get (by omega) (by omega) hlt]; exact cc)
   have I2 : SInv n s l room least (m.set (toOf l (i : Int)).toNat true) := by
    refine ⟨by rw [List.length_set]; exact hlen, ?_, fun P hP hc v v0 vn h => ?_⟩
    ·rw [hst s hs]
     split
     ·rfl
     ·exact I.src
    ·rw [hst v v0] at h
     by_cases e : toOf l (i : Int) = v
     ·rw [← e]
      exact hc _ hr ca (I.min P hP hc _ (by omega) fn cb)
     ·rw [if_neg e] at h
      exact I.min P hP hc v v0 vn h
   obtain ⟨m', b', h1, h2, h3, h4, h5, h6⟩ := ih (i + 1) (m.set (toOf l (i : Int)).toNat true) true (by omega) I2
   have hb := h5 rfl
   refine ⟨m', b', fun e he => ?_, h2, by omega, fun _ => .inr (by omega), fun _ => hb, fun h => by rw [hb] at h; cases h⟩
   refine Ev.step (f := ?g) (fun k => ?h) ?e
   case h =>
    simp only [q6_Reach.l1]
    rw [if_pos (by omega)]
   case e =>
    refine Ev.bind (ends6_ev hr hl) ?_
    refine Ev.congr (fun k => ?_) (h1 e he)
    simp only
    rw [if_pos (by omega), if_pos ca, if_pos (by omega), if_pos (by omega), if_pos cb, if_pos (by omega), if_pos (by omega), if_neg (by rw [cc]; decide), hw]
  ·obtain ⟨m', b', h1, h2, h3, h4, h5, h6⟩ := ih (i + 1) m b (by omega) I
   refine ⟨m', b', fun e he => ?_, h2, h3, h4, h5, fun h => ⟨(h6 h).1, fun r r0 rr hroom hf => ?_⟩⟩
   ·refine Ev.step (f := ?g2) (fun k => ?h2) ?e2
    case h2 =>
     simp only [q6_Reach.l1]
     rw [if_pos (by omega)]
    case e2 =>
     refine Ev.bind (ends6_ev hr hl) ?_
     refine Ev.congr (fun k => ?_) (h1 e he)
     simp only
     rw [if_pos (by omega), hw]
     by_cases c1 : least ≤ rd room (i : Int)
     ·rw [if_pos c1, if_pos (by omega), if_pos (by omega)]
      by_cases c2 : rdOf false m (fromOf l (i : Int)) = true
      ·rw [if_pos c2, if_pos (by omega), if_pos (by omega), if_pos (by
        cases h : rdOf false m (toOf l (i : Int)) with
        | true => rfl
        | false => exact absurd ⟨c1, c2, h⟩ c)]
      ·rw [if_neg c2]
     ·rw [if_neg c1]
   ·by_cases e : r = (i : Int)
    ·subst e
     cases h : rdOf false m (toOf l (i : Int)) with
     | true => rfl
     | false => exact absurd ⟨hroom, hf, h⟩ c
    ·exact (h6 h).2 r (by omega) rr hroom hf
theorem search6 (hg : ∀ a ∈ l, GoodArc n a) (hl : l.length ≤ 2000) (hroom : room.length = 2 * l.length) (hs : 0 ≤ s) (d : Nat) :
  ∀ m : List Bool, cntB m ≤ d → SInv n s l room least m → ∃ m', Ev (fun k => q6_Reach.l0 k least room m true n s t l) (m', 0) ∧ IsMet n s l room least m' := by
 induction d with
 | zero =>
  intro m hd I
  obtain ⟨m', b', h1, h2, h3, h4, h5, h6⟩ := scan6 (t := t) hg hl hroom hs room.length 0 m false (by omega) I
  cases b' with
  | true =>
   rcases h4 rfl with h | h
   ·cases h
   ·omega
  | false =>
   obtain ⟨rfl, h7⟩ := h6 rfl
   refine ⟨m', ?_, ⟨I.len, I.src, fun r hr => h7 r (by have := hr.1; omega) hr, I.min⟩⟩
   refine Ev.step (fun k => ?_) (h1 (m', 0) (Ev.step (f := fun _ => some (m', 0)) (fun k => ?_) (Ev.now _)))
   ·simp only [q6_Reach.l0]
    rw [if_pos (by trivial)]
    rfl
   ·simp only [q6_Reach.l0]
    rw [if_neg (by decide)]
 | succ d ih =>
  intro m hd I
  obtain ⟨m', b', h1, h2, h3, h4, h5, h6⟩ := scan6 (t := t) hg hl hroom hs room.length 0 m false (by omega) I
  cases b' with
  | true =>
   have hlt : cntB m' < cntB m := by
    rcases h4 rfl with h | h
    ·cases h
    ·exact h
   obtain ⟨q, hq, hQ⟩ := ih m' (by omega) h2
   refine ⟨q, Ev.step (fun k => ?_) (h1 _ hq), hQ⟩
   simp only [q6_Reach.l0]
   rw [if_pos (by trivial)]
   rfl
  | false =>
   obtain ⟨rfl, h7⟩ := h6 rfl
   refine ⟨m', ?_, ⟨I.len, I.src, fun r hr => h7 r (by have := hr.1; omega) hr, I.min⟩⟩
   refine Ev.step (fun k => ?_) (h1 (m', 0) (Ev.step (f := fun _ => some (m', 0)) (fun k => ?_) (Ev.now _)))
   ·simp only [q6_Reach.l0]
    rw [if_pos (by trivial)]
    rfl
   ·simp only [q6_Reach.l0]
    rw [if_neg (by decide)]
theorem reach6_ev {f : List Int} (R : Right n s t l) (F : IsFlow n s t l f) (h : Ev (fun k => q5_Check.f k n s t l f) 0) (hl : 1 ≤ least) :
  ∃ met, Ev (fun k => q6_Reach.f k n s t l f least) (met, 0) ∧ IsMet n s l (roomOf l f) least met := by
 have h1 := R.n2
 have h2 := R.n500
 have h3 := R.s1
 have h4 := R.sn
 have hlen : (roomOf l f).length = 2 * l.length := roomOf_len F.1.len
 have hrl : (List.replicate (n + 1).toNat false).length = (n + 1).toNat := List.length_replicate
 have hrep : ∀ v, 0 ≤ v → v ≤ n → rdOf false (List.replicate (n + 1).toNat false) v = false := fun v v0 vn => by
  have : v.toNat < (n + 1).toNat := by omega
  simp [rdOf, this]
 have hrs : ∀ v, 0 ≤ v → rdOf false ((List.replicate (n + 1).toNat false).set s.toNat true) v = if s = v then true else rdOf false (List.replicate (n + 1).toNat false) v := fun v v0 => rdB_set (by omega) (by omega) v0
 have I : SInv n s l (roomOf l f) least ((List.replicate (n + 1).toNat false).set s.toNat true) := by
  refine ⟨by rw [List.length_set, hrl]; omega, by rw [hrs s (by omega), if_pos rfl], fun P hP _ v v0 vn hv => ?_⟩
  rw [hrs v v0] at hv
  by_cases c : s = v
  ·rw [← c]; exact hP
  ·rw [if_neg c, hrep v v0 vn] at hv
   cases hv
 obtain ⟨m, hm, hM⟩ := search6 (t := t) R.arcs R.len hlen (by omega) _ _ (Nat.le_refl _) I
 refine ⟨m, ?_, hM⟩
 unfold q6_Reach.f
 refine Ev.bind (room6_ev R F h) ?_
 simp only [if_true]
 refine Ev.congr (fun k => ?_) hm
 rw [if_neg (by omega), wrap_id (x := n + 1) (by omega) (by omega), if_pos (by omega), if_pos (by omega)]
 simp only [Option.bind_some]
 rw [if_pos (by omega), if_pos (by omega)]
theorem reach6_err {f : List Int} {e : Int} (he : e ≠ 0) (h : Ev (fun k => q5_Check.f k n s t l f) e) : Ev (fun k => q6_Reach.f k n s t l f least) ([], e) := by
 unfold q6_Reach.f
 refine Ev.bind (room6_err he h) ?_
 exact Ev.congr (fun k => if_neg he) (Ev.now _)
theorem reach6_low {f : List Int} (R : Right n s t l) (F : IsFlow n s t l f) (h : Ev (fun k => q5_Check.f k n s t l f) 0) (hl : least < 1) : Ev (fun k => q6_Reach.f k n s t l f least) ([], 3) := by
 unfold q6_Reach.f
 refine Ev.bind (room6_ev R F h) ?_
 simp only [if_true]
 exact Ev.congr (fun k => if_pos hl) (Ev.now _)
end
section
variable {n s t least : Int} {l : List S49} {room up : List Int}
structure LS (n : Int) (l : List S49) (room : List Int) (least : Int) (up : List Int) (k i : Int) (out : List Int) : Prop where
 len : (out.length : Int) = n + 1
 lo : ∀ v, 0 ≤ v → v ≤ n → rd up v ≤ k → rd out v = rd up v
 mid : ∀ v, 0 ≤ v → v ≤ n → rd up v = k + 1 → rd out v = -1 ∨ rd out v = k + 1
 hi : ∀ v, 0 ≤ v → v ≤ n → k + 1 < rd up v → rd out v = -1
 done : ∀ r, InR l r → r < i → least ≤ rd room r → rd up (fromOf l r) = k → 0 ≤ rd out (toOf l r)
theorem lv7_scan (hg : ∀ a ∈ l, GoodArc n a) (hl : l.length ≤ 2000) (hn : n ≤ 500) (hroom : room.length = 2 * l.length) (U : IsUp n s l room least up) {k : Int} (hk : 0 ≤ k) (hkn : k ≤ 500) (d : Nat) :
  ∀ (i : Nat) (out : List Int), i + d = room.length → LS n l room least up k (i : Int) out →
   ∃ out', LS n l room least up k (room.length : Int) out' ∧ ∀ e, Ev (fun q => q7_Levels.l1 q least room out' (k + 1) n s t l) e → Ev (fun q => q7_Levels.l2 q least room out k (i : Int) n s t l) e := by
 induction d with
 | zero =>
  intro i out hi I
  obtain rfl : i = room.length := by omega
  refine ⟨out, I, fun e he => Ev.step (fun q => ?_) he⟩
  simp only [q7_Levels.l2]
  rw [if_neg (by omega), wrap_id (by omega) (by omega)]
 | succ d ih =>
  intro i out hi I
  have hr : InR l (i : Int) := ⟨by omega, by omega⟩
  obtain ⟨f1, fn, t1, tn⟩ := ends_range hg hr
  have hlen := I.len
  have hw : wrap64 ((i : Int) + 1) = ((i + 1 : Nat) : Int) := wrap_succ (by omega)
  have hwk : wrap64 (k + 1) = k + 1 := wrap_id (by omega) (by omega)
  by_cases c : least ≤ rd room (i : Int) ∧ rd out (fromOf l (i : Int)) = k ∧ rd out (toOf l (i : Int)) < 0
  ·obtain ⟨ca, cb, cc⟩ := c
   have hup : rd up (fromOf l (i : Int)) = k := by
    rcases Int.lt_trichotomy (rd up (fromOf l (i : Int))) (k + 1) with h | h | h
    ·rw [← I.lo _ (by omega) fn (by omega)]; exact cb
    ·rcases I.mid _ (by omega) fn h with h | h <;> omega
    ·have := I.hi _ (by omega) fn h
     omega
   have hst := U.step (i : Int) hr ca (by omega)
   have hto : rd up (toOf l (i : Int)) = k + 1 := by
    by_cases h : rd up (toOf l (i : Int)) ≤ k
    ·have := I.lo _ (by omega) tn h
     omega
    ·omega
   have hrs : ∀ v, 0 ≤ v → rd (out.set (toOf l (i : Int)).toNat (k + 1)) v = if toOf l (i : Int) = v then k + 1 else rd out v := fun v v0 => rd_set (by omega) (by omega) v0
   have I2 : LS n l room least up k ((i + 1 : Nat) : Int) (out.set (toOf l (i : Int)).toNat (k + 1)) := by
    refine ⟨by rw [List.length_set]; exact hlen, fun v v0 vn h => ?_, fun v v0 vn h => ?_, fun v v0 vn h => ?_, fun r rr hlt hroom hf => ?_⟩
    ·rw [hrs v v0, if_neg (fun e => by rw [← e, hto] at h; omega)]
     exact I.lo v v0 vn h
    ·rw [hrs v v0]
     split
     ·exact .inr rfl
     ·exact I.mid v v0 vn h
    ·rw [hrs v v0, if_neg (fun e => by rw [← e, hto] at h; omega)]
     exact I.hi v v0 vn h
    ·have hrange := ends_range hg rr
     rw [hrs _ (by omega)]
     split
     ·omega
     ·rename_i hne
      refine I.done r rr ?_ hroom hf
      by_cases e : r = (i : Int)
      ·subst e
       exact absurd rfl hne
      ·omega
   obtain ⟨out', h1, h2⟩ := ih (i + 1) _ (by omega) I2
   refine ⟨out', h1, fun e he => ?_⟩
   refine Ev.step (f := ?g) (fun q => ?h) ?e
   case h =>
    simp only [q7_Levels.l2]
    rw [if_pos (by omega)]
   case e =>
    refine Ev.bind (ends6_ev hr hl) ?_
    refine Ev.congr (fun q => ?_) (h2 e he)
    simp only
    rw [if_pos (by omega), if_pos ca, if_pos (by omega), if_pos (by omega), if_pos cb, if_pos (by omega), if_pos (by omega), if_pos cc, hw, hwk]
  ·have I2 : LS n l room least up k ((i + 1 : Nat) : Int) out := by
    refine ⟨hlen, I.lo, I.mid, I.hi, fun r rr hlt hroom hf => ?_⟩
    by_cases e : r = (i : Int)
    ·subst e
     have h := I.lo _ (by omega) fn (by omega)
     apply Classical.byContradiction
     intro hc
     exact c ⟨hroom, by omega, by omega⟩
    ·exact I.done r rr (by omega) hroom hf
   obtain ⟨out', h1, h2⟩ := ih (i + 1) _ (by omega) I2
   refine ⟨out', h1, fun e he => ?_⟩
   refine Ev.step (f := ?g2) (fun q => ?h2) ?e2
   case h2 =>
    simp only [q7_Levels.l2]
    rw [if_pos (by omega)]
   case e2 =>
    refine Ev.bind (ends6_ev hr hl) ?_
    refine Ev.congr (fun q => ?_) (h2 e he)
    simp only
    rw [if_pos (by omega), hw]
    by_cases c1 : least ≤ rd room (i : Int)
    ·rw [if_pos c1, if_pos (by omega), if_pos (by omega)]
     by_cases c2 : rd out (fromOf l (i : Int)) = k
     ·rw [if_pos c2, if_pos (by omega), if_pos (by omega), if_neg (fun h => c ⟨c1, c2, h⟩)]
     ·rw [if_neg c2]
    ·rw [if_neg c1]
theorem lv7_turns (hg : ∀ a ∈ l, GoodArc n a) (hl : l.length ≤ 2000) (hn : n ≤ 500) (hroom : room.length = 2 * l.length) (U : IsUp n s l room least up) (d : Nat) :
  ∀ (k : Nat) (out : List Int), (k : Int) + d = n → LS n l room least up (k : Int) 0 out → Ev (fun q => q7_Levels.l1 q least room out (k : Int) n s t l) (up, 0) := by
 have hul := U.len
 induction d with
 | zero =>
  intro k out hk I
  have hlen := I.len
  have e : out = up := rd_ext (by omega) (fun v v0 => by
   by_cases vn : v ≤ n
   ·refine I.lo v v0 vn ?_
    have := U.rng v v0 vn
    omega
   ·unfold rd
    rw [List.getD_eq_getElem?_getD, List.getD_eq_getElem?_getD, List.getElem?_eq_none (by omega), List.getElem?_eq_none (by omega)])
  subst e
  refine Ev.step (f := fun _ => some (out, 0)) (fun q => ?_) (Ev.now _)
  simp only [q7_Levels.l1]
  rw [if_neg (by omega)]
 | succ d ih =>
  intro k out hk I
  obtain ⟨out', h1, h2⟩ := lv7_scan (t := t) hg hl hn hroom U (k := (k : Int)) (by omega) (by omega) room.length 0 out (by omega) I
  have I2 : LS n l room least up ((k + 1 : Nat) : Int) 0 out' := by
   refine ⟨h1.len, fun v v0 vn h => ?_, fun v v0 vn h => .inl (h1.hi v v0 vn (by omega)), fun v v0 vn h => h1.hi v v0 vn (by omega), fun r rr h => by have := rr.1; omega⟩
   by_cases c : rd up v ≤ (k : Int)
   ·exact h1.lo v v0 vn c
   ·have e : rd up v = (k : Int) + 1 := by omega
    obtain ⟨r, rr, hrm, ht, hf⟩ := U.pred v v0 vn (by omega)
    have hd := h1.done r rr (by have := rr.2; omega) hrm (by omega)
    rw [ht] at hd
    rcases h1.mid v v0 vn e with h | h
    ·omega
    ·rw [h, e]
  refine Ev.step (fun q => ?_) (h2 _ (ih (k + 1) out' (by omega) I2))
  simp only [q7_Levels.l1]
  rw [if_pos (by omega)]
  rfl
theorem lv7_fill (hn : n ≤ 500) (hs : 1 ≤ s) (hsn : s ≤ n) (d : Nat) : ∀ (i : Nat) (out : List Int), (i : Int) + d = n + 1 → (out.length : Int) = n + 1 → (∀ v, 0 ≤ v → v < (i : Int) → rd out v = -1) →
  ∃ out', (out'.length : Int) = n + 1 ∧ (∀ v, 0 ≤ v → v ≤ n → rd out' v = -1) ∧ ∀ e, Ev (fun q => q7_Levels.l1 q least room (out'.set s.toNat 0) 0 n s t l) e → Ev (fun q => q7_Levels.l0 q least room out (i : Int) n s t l) e := by
 induction d with
 | zero =>
  intro i out hi hlen h
  refine ⟨out, hlen, fun v v0 vn => h v v0 (by omega), fun e he => Ev.step (fun q => ?_) he⟩
  simp only [q7_Levels.l0]
  rw [if_neg (by omega), if_pos (by omega), if_pos (by omega)]
 | succ d ih =>
  intro i out hi hlen h
  have hw : wrap64 ((i : Int) + 1) = ((i + 1 : Nat) : Int) := wrap_succ (by omega)
  obtain ⟨out', h1, h2, h3⟩ := ih (i + 1) (out.set (i : Int).toNat (-1)) (by omega) (by rw [List.length_set]; exact hlen) (fun v v0 hv => by
   rw [rd_set (by omega) (by omega) v0]
   by_cases c : (i : Int) = v
   ·rw [if_pos c]
   ·rw [if_neg c]
    exact h v v0 (by omega))
  refine ⟨out', h1, h2, fun e he => Ev.step (fun q => ?_) (h3 e he)⟩
  simp only [q7_Levels.l0]
  rw [if_pos (by omega), if_pos (by omega), hw]
theorem levels7_ev {f : List Int} (R : Right n s t l) (F : IsFlow n s t l f) (h : Ev (fun k => q5_Check.f k n s t l f) 0) (hl : 1 ≤ least) (U : IsUp n s l (roomOf l f) least up) :
  Ev (fun k => q7_Levels.f k n s t l f least) (up, 0) := by
 have h1 := R.n2
 have h2 := R.n500
 have h3 := R.s1
 have h4 := R.sn
 have hlen : (roomOf l f).length = 2 * l.length := roomOf_len F.1.len
 obtain ⟨met, hm, _⟩ := reach6_ev R F h hl
 obtain ⟨out', o1, o2, o3⟩ := lv7_fill (t := t) (least := least) (room := roomOf l f) (l := l) h2 h3 h4 (n + 1).toNat 0 (List.replicate (n + 1).toNat 0) (by omega) (by rw [List.length_replicate]; omega) (fun v h0 h1 => by omega)
 have hrs : ∀ v, 0 ≤ v → rd (out'.set s.toNat 0) v = if s = v then 0 else rd out' v := fun v v0 => rd_set (by omega) (by omega) v0
 have I : LS n l (roomOf l f) least up ((0 : Nat) : Int) 0 (out'.set s.toNat 0) := by
  refine ⟨by rw [List.length_set]; exact o1, fun v v0 vn h => ?_, fun v v0 vn h => ?_, fun v v0 vn h => ?_, fun r rr h => by have := rr.1; omega⟩
  ·rw [hrs v v0]
   have hrg := U.rng v v0 vn
   by_cases c : s = v
   ·rw [if_pos c, ← c, U.src]
   ·rw [if_neg c, o2 v v0 vn]
    by_cases e : rd up v = 0
    ·exact absurd (U.zero v v0 vn e).symm c
    ·omega
  ·left
   rw [hrs v v0, if_neg (fun e => by rw [← e, U.src] at h; omega)]
   exact o2 v v0 vn
  ·rw [hrs v v0, if_neg (fun e => by rw [← e, U.src] at h; omega)]
   exact o2 v v0 vn
 have hT := lv7_turns (t := t) R.arcs R.len h2 hlen U n.toNat 0 _ (by omega) I
 unfold q7_Levels.f
 refine Ev.bind hm ?_
 simp only [if_true]
 refine Ev.bind (room6_ev R F h) ?_
 refine Ev.congr (fun k => ?_) (o3 _ hT)
 rw [wrap_id (x := n + 1) (by omega) (by omega), if_pos (by omega), if_pos (by omega)]
 rfl
theorem levels7_err {f : List Int} {e : Int} (he : e ≠ 0) (h : Ev (fun k => q6_Reach.f k n s t l f least) ([], e)) : Ev (fun k => q7_Levels.f k n s t l f least) ([], e) := by
 unfold q7_Levels.f
 refine Ev.bind h ?_
 exact Ev.congr (fun k => if_neg he) (Ev.now _)
theorem levels_err {f : List Int} {e : Int} (he : e ≠ 0) (h : Ev (fun k => flow_Check.f k n s t l f) e) : Ev (fun k => level_Levels.f k n s t l f least) ([], e) := by
 unfold level_Levels.f
 refine Ev.bind (room_err he h) ?_
 exact Ev.congr (fun k => if_neg he) (Ev.now _)
theorem levels_low {f : List Int} (R : Right n s t l) (F : IsFlow n s t l f) (hl : least < 1) : Ev (fun k => level_Levels.f k n s t l f least) ([], 3) := by
 unfold level_Levels.f
 refine Ev.bind (room_ev R F) ?_
 simp only [if_true]
 exact Ev.congr (fun k => if_pos hl) (Ev.now _)
theorem leads7_loop {f : List Int} (R : Right n s t l) (F : IsFlow n s t l f) (U : IsUp n s l (roomOf l f) least up) (d : Nat) : ∀ i : Nat, i + d = (roomOf l f).length →
  Ev (fun k => q7_Leads.l0 k least up (roomOf l f) (ld l (roomOf l f) least up i) (i : Int) n s t l) (ld l (roomOf l f) least up (roomOf l f).length, 0) := by
 have hlen : (roomOf l f).length = 2 * l.length := roomOf_len F.1.len
 have h5 := R.len
 have hn := R.n500
 induction d with
 | zero =>
  intro i hi
  have e : i = (roomOf l f).length := by omega
  subst e
  refine Ev.step (f := fun _ => some (ld l (roomOf l f) least up (roomOf l f).length, 0)) (fun k => ?_) (Ev.now _)
  simp only [q7_Leads.l0]
  rw [if_neg (by omega)]
 | succ d ih =>
  intro i hi
  have hr : InR l (i : Int) := ⟨by omega, by omega⟩
  obtain ⟨f1, fn, t1, tn⟩ := ends_range R.arcs hr
  have hul := U.len
  have hll := ld_len (l := l) (room := roomOf l f) (up := up) (least := least) i
  have hnext := ih (i + 1) (by omega)
  have hrg := U.rng (fromOf l (i : Int)) (by omega) fn
  refine Ev.step (f := ?g) (fun k => ?h) ?e
  case h =>
   simp only [q7_Leads.l0]
   rw [if_pos (by omega)]
  case e =>
   refine Ev.bind (ends6_ev hr h5) ?_
   simp only
   have hw : wrap64 ((i : Int) + 1) = ((i + 1 : Nat) : Int) := wrap_succ (by omega)
   have hw2 : wrap64 (rd up (fromOf l (i : Int)) + 1) = rd up (fromOf l (i : Int)) + 1 := wrap_id (by omega) (by omega)
   rw [hw]
   by_cases c : least ≤ rd (roomOf l f) (i : Int) ∧ rd up (fromOf l (i : Int)) ≠ -1 ∧ rd up (toOf l (i : Int)) = rd up (fromOf l (i : Int)) + 1
   ·have e : ld l (roomOf l f) least up (i + 1) = ld l (roomOf l f) least up i ++ [(i : Int)] := by rw [ld, if_pos c]
    refine Ev.congr (fun k => ?_) hnext
    rw [if_pos (by omega), if_pos c.1, if_pos (by omega), if_pos (by omega), if_pos (by have := c.2.1; omega), if_pos (by omega), if_pos (by omega), if_pos (by rw [hw2]; exact c.2.2), if_pos (by omega), e]
   ·have e : ld l (roomOf l f) least up (i + 1) = ld l (roomOf l f) least up i := by rw [ld, if_neg c, List.append_nil]
    refine Ev.congr (fun k => ?_) hnext
    rw [e, if_pos (by omega)]
    by_cases c1 : least ≤ rd (roomOf l f) (i : Int)
    ·rw [if_pos c1, if_pos (by omega), if_pos (by omega)]
     by_cases c2 : rd up (fromOf l (i : Int)) = -1
     ·rw [if_neg (by omega)]
     ·rw [if_pos (by omega), if_pos (by omega), if_pos (by omega), if_neg (fun h => c ⟨c1, c2, by rw [hw2] at h; exact h⟩)]
    ·rw [if_neg c1]
theorem leads7_ev {f : List Int} (R : Right n s t l) (F : IsFlow n s t l f) (h : Ev (fun k => q5_Check.f k n s t l f) 0) (hup : Ev (fun k => q7_Levels.f k n s t l f least) (up, 0)) (U : IsUp n s l (roomOf l f) least up) :
  Ev (fun k => q7_Leads.f k n s t l f least) (ld l (roomOf l f) least up (2 * l.length), 0) := by
 have hlen : (roomOf l f).length = 2 * l.length := roomOf_len F.1.len
 unfold q7_Leads.f
 refine Ev.bind hup ?_
 simp only [if_true]
 refine Ev.bind (room6_ev R F h) ?_
 have := leads7_loop R F U (roomOf l f).length 0 (by omega)
 rw [← hlen]
 exact this
end
theorem shown7_ev : Ev (fun k => r7_shown.f k) true := by
 have R : Right 2 1 2 [(⟨1, 2, 5⟩ : S49)] := ⟨by decide, by decide, by decide, by decide, by decide, by decide, by decide, by decide, fun a ha => by obtain rfl := List.mem_singleton.1 ha; exact ⟨by decide, by decide, by decide, by decide, by decide⟩, by decide⟩
 have F : IsFlow 2 1 2 [(⟨1, 2, 5⟩ : S49)] [5] := ⟨⟨by decide, by decide, trivial⟩, fun v v1 vn vs vt => by omega⟩
 obtain ⟨up, hup, U⟩ := levels_ev R F (least := 1) (by decide)
 have h0 := U.none0
 have h1 := U.src
 have hl := U.len
 have h2 : rd up 2 = -1 := by
  rcases U.rng 2 (by decide) (by decide) with h | h
  ·exact h
  ·have hz : rd up 2 ≠ 0 := fun e => by have := U.zero 2 (by decide) (by decide) e; omega
   obtain ⟨r, hr, hroom, ht, hf⟩ := U.pred 2 (by decide) (by decide) (by omega)
   have hr1 := hr.1
   have hr2 := hr.2
   simp only [List.length_singleton] at hr2
   have e : r = 0 ∨ r = 1 := by omega
   rcases e with rfl | rfl
   ·simp [roomOf, rd, wrap64] at hroom
   ·simp [toOf, rd_T49] at ht
 obtain ⟨a, b, c, rfl⟩ : ∃ a b c, up = [a, b, c] := by
  match up, hl with
  | [a, b, c], _ => exact ⟨a, b, c, rfl⟩
 simp [rd] at h0 h1 h2
 subst h0 h1 h2
 unfold r7_shown.f
 refine Ev.bind hup ?_
 exact Ev.congr (fun k => by simp [rd]) (Ev.now true)
theorem samei_loop {a b : List Int} (hl : a.length = b.length) (hm : a.length ≤ 1000000) (d : Nat) : ∀ i : Nat, i + d = a.length → Ev (fun k => r7_same.l0 k a b (i : Int)) (decide (a.drop i = b.drop i)) := by
 induction d with
 | zero =>
  intro i hi
  refine Ev.step (f := fun _ => some (decide (a.drop i = b.drop i))) (fun k => ?_) (Ev.now _)
  simp only [r7_same.l0]
  rw [if_neg (by omega), List.drop_of_length_le (by omega), List.drop_of_length_le (by omega)]
  simp
 | succ d ih =>
  intro i hi
  have hia : i < a.length := by omega
  have hib : i < b.length := by omega
  by_cases c : a[i] = b[i]
  ·have e : decide (a.drop i = b.drop i) = decide (a.drop (i + 1) = b.drop (i + 1)) := by
    have e3 : (a.drop i = b.drop i) ↔ (a.drop (i + 1) = b.drop (i + 1)) := by
     rw [List.drop_eq_getElem_cons hia, List.drop_eq_getElem_cons hib, c]
     exact ⟨fun h => (List.cons.inj h).2, fun h => by rw [h]⟩
    exact decide_eq_decide.2 e3
   rw [e]
   refine Ev.step (fun k => ?_) (ih (i + 1) (by omega))
   simp only [r7_same.l0]
   rw [if_pos (by omega), if_pos (by omega), if_pos (by omega), rd_get hia, rd_get hib, if_pos c, wrap_id (by omega) (by omega)]
   rfl
  ·have e : decide (a.drop i = b.drop i) = false := by
    refine decide_eq_false (fun h => c ?_)
    rw [List.drop_eq_getElem_cons hia, List.drop_eq_getElem_cons hib] at h
    exact (List.cons.inj h).1
   rw [e]
   refine Ev.step (f := fun _ => some false) (fun k => ?_) (Ev.now _)
   simp only [r7_same.l0]
   rw [if_pos (by omega), if_pos (by omega), if_pos (by omega), rd_get hia, rd_get hib, if_neg c]
theorem samei_ev (a b : List Int) (hm : a.length ≤ 1000000) : Ev (fun k => r7_same.f k a b) (decide (a = b)) := by
 by_cases hl : a.length = b.length
 ·have := samei_loop hl hm a.length 0 (by omega)
  rw [List.drop_zero, List.drop_zero] at this
  refine Ev.congr (fun k => ?_) this
  unfold r7_same.f
  rw [if_pos (by omega)]
  rfl
 ·have e : decide (a = b) = false := decide_eq_false (fun h => hl (by rw [h]))
  rw [e]
  refine Ev.congr (fun k => ?_) (Ev.now _)
  unfold r7_same.f
  rw [if_neg (by omega)]
end Go.Proofs.Ytbppeffcikphcaa.Pure
