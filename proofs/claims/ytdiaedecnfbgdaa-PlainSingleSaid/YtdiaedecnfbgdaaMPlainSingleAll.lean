/- Plain lists and numbers, for the law PlainSingle: no program and no memory. -/
import Derived.Test.YtdiaedecnfbgdaaPPlainSinglex0
import Derived.Test.YtdiaedecnfbgdaaPPlainSinglex1
import Derived.Test.YtdiaedecnfbgdaaPPlainSinglex3
import Derived.Test.YtdiaedecnfbgdaaPPlainSinglex4
import Derived.Test.YtdiaedecnfbgdaaPPlainSinglex5
import Derived.Test.YtdiaedecnfbgdaaPPlainSinglex6
import Derived.Test.YtdiaedecnfbgdaaPPlainSinglex7
import Derived.Test.YtdiaedecnfbgdaaPPlainSinglex8
import Derived.Test.YtdiaedecnfbgdaaPPlainSinglex9
import Derived.Test.YtdiaedecnfbgdaaPPlainSinglex10
import Derived.Test.YtdiaedecnfbgdaaPPlainSinglex11
import Derived.Test.YtdiaedecnfbgdaaPPlainSinglex14
import Derived.Test.YtdiaedecnfbgdaaPPlainSinglex15
import Derived.Test.YtdiaedecnfbgdaaPPlainSinglex16
import Derived.Test.YtdiaedecnfbgdaaPPlainSinglex17
import Derived.Test.YtdiaedecnfbgdaaPPlainSinglex18
import Derived.Test.YtdiaedecnfbgdaaPPlainSinglex19
import Derived.Test.YtdiaedecnfbgdaaPPlainSinglex20
import Derived.Lib.RabinKarpLaws
set_option linter.unusedVariables false
namespace Go.Proofs.Ytdiaedecnfbgdaa.Pure
open Go.RowKit Go.Proofs.Ytdiaedecnfbgdaa.PPlainSingle Go.Proofs.YtdiaedecnfbgdaaW.PrintWords Go.Proofs.YtdiaedecnfbgdaaW.PrintLast
theorem wrap_id {x : Int} (h0 : -9223372036854775808 ≤ x) (h1 : x ≤ 9223372036854775807) : wrap64 x = x := by unfold wrap64; omega
/-- An arc between nodes 1 to n, of no capacity below 0. -/
def GoodArc (n : Int) (a : S30) : Prop := 1 ≤ a.f0 ∧ a.f0 ≤ n ∧ 1 ≤ a.f1 ∧ a.f1 ≤ n ∧ 0 ≤ a.f2
def sumCap : List S30 → Int
  | [] => 0
  | a :: t => a.f2 + sumCap t
theorem sumCap_nonneg {n : Int} {l : List S30} (h : ∀ a ∈ l, GoodArc n a) : 0 ≤ sumCap l := by
  induction l with
  | nil => exact Int.le_refl 0
  | cons a t ih =>
    have h1 := ih (fun x hx => h x (List.mem_cons_of_mem _ hx))
    have h2 := (h a List.mem_cons_self).2.2.2.2
    simp only [sumCap]; omega
theorem chk_app {n : Int} : ∀ {l m : List S30} {s : Int}, (∀ a ∈ l, GoodArc n a) → 0 ≤ s → s + sumCap l ≤ 4611686018427387903 → chkArcs n (l ++ m) s = chkArcs n m (s + sumCap l)
  | [], m, s, _, _, _ => by simp [sumCap]
  | a :: t, m, s, h, hs, hM => by
    obtain ⟨g0, g1, g2, g3, g4⟩ := h a List.mem_cons_self
    have ht : ∀ x ∈ t, GoodArc n x := fun x hx => h x (List.mem_cons_of_mem _ hx)
    have hn := sumCap_nonneg ht
    simp only [sumCap] at hM
    simp only [List.cons_append, chkArcs]
    rw [if_pos ⟨by omega, by omega⟩, if_pos ⟨g0, g1, g2, g3⟩, if_neg (by omega), if_neg (by omega), chk_app ht (by omega) (by omega)]
    simp only [sumCap]
    rw [Int.add_assoc]
theorem chk_ok {n : Int} {l : List S30} {s : Int} (h : ∀ a ∈ l, GoodArc n a) (hs : 0 ≤ s) (hM : s + sumCap l ≤ 4611686018427387903) : chkArcs n l s = some 0 := by
  have := chk_app (m := []) h hs hM
  rw [List.append_nil] at this
  rw [this, chkArcs]
/-- A right network. -/
structure Right (n s t : Int) (l : List S30) : Prop where
  n2 : 2 ≤ n
  n500 : n ≤ 500
  s1 : 1 ≤ s
  sn : s ≤ n
  t1 : 1 ≤ t
  tn : t ≤ n
  ne : s ≠ t
  len : l.length ≤ 2000
  arcs : ∀ a ∈ l, GoodArc n a
  sum : sumCap l ≤ 4611686018427387903
theorem Right.check {n s t : Int} {l : List S30} (h : Right n s t l) : net_Check.f n s t l = some 0 := by
  unfold net_Check.f
  have h1 := h.n2
  have h2 := h.n500
  have h3 := h.s1
  have h4 := h.sn
  have h5 := h.t1
  have h6 := h.tn
  have h8 := h.len
  rw [if_neg (by omega), if_neg (fun hc => hc ⟨h3, h4, h5, h6⟩), if_neg h.ne, if_neg (by omega)]
  exact chk_ok h.arcs (Int.le_refl 0) (by have := h.sum; omega)
/-- Which of n things the raw number c speaks of. -/
def pk (c n : Int) : Int := if c < 0 then Int.tmod (-(c + 1)) n else Int.tmod c n
theorem pk_range {c n : Int} (hn : 0 < n) : 0 ≤ pk c n ∧ pk c n < n := by
  unfold pk
  split
  · exact ⟨Int.tmod_nonneg _ (by omega), Int.tmod_lt_of_pos _ hn⟩
  · exact ⟨Int.tmod_nonneg _ (by omega), Int.tmod_lt_of_pos _ hn⟩
theorem wf_bounds {c : Int} (h : (Lit.int .i64 c).wf = true) : -9223372036854775808 ≤ c ∧ c ≤ 9223372036854775807 := by
  simp [Lit.wf] at h
  obtain ⟨h1, h2⟩ := h
  have e : IntKind.i64.min = -9223372036854775808 := by decide
  rw [e] at h1
  exact ⟨h1, h2⟩
theorem pick_eq {c n : Int} (h0 : -9223372036854775808 ≤ c) (h1 : c ≤ 9223372036854775807) (hn : 0 < n) : racewaylaw8_pick.f c n = some (pk c n) := by
  unfold racewaylaw8_pick.f pk
  by_cases hc : c < 0
  · have e1 : wrap64 (c + 1) = c + 1 := by unfold wrap64; omega
    have e2 : wrap64 (-(c + 1)) = -(c + 1) := by unfold wrap64; omega
    rw [if_pos hc, if_pos hc, if_neg (by omega), e1, e2]
  · rw [if_neg hc, if_neg hc, if_neg (by omega)]
/-- Amounts within the capacities. -/
def Within : List S30 → List Int → Prop
  | [], [] => True
  | a :: l, x :: f => 0 ≤ x ∧ x ≤ a.f2 ∧ Within l f
  | _, _ => False
/-- What comes in to a node, without what goes out. -/
def exc : List S30 → List Int → Int → Int
  | a :: l, x :: f, v => (if a.f1 = v then x else 0) - (if a.f0 = v then x else 0) + exc l f v
  | _, _, _ => 0
theorem exc_nil (f : List Int) (v : Int) : exc [] f v = 0 := by cases f <;> rfl
def sumL : List Int → Int
  | [] => 0
  | x :: f => x + sumL f
theorem Within.len : ∀ {l : List S30} {f : List Int}, Within l f → f.length = l.length
  | [], [], _ => rfl
  | _ :: _, _ :: _, h => by simp [Within.len h.2.2]
  | [], _ :: _, h => h.elim
  | _ :: _, [], h => h.elim
theorem Within.get : ∀ {l : List S30} {f : List Int}, Within l f → ∀ i (h : i < l.length) (h' : i < f.length), 0 ≤ f[i] ∧ f[i] ≤ (l[i]).f2
  | _ :: _, _ :: _, h, 0, _, _ => ⟨h.1, h.2.1⟩
  | _ :: l, _ :: f, h, i + 1, h1, h2 => by
    simp only [List.getElem_cons_succ]
    exact Within.get h.2.2 i (by simpa using h1) (by simpa using h2)
  | [], [], _, i, h1, _ => absurd h1 (by simp)
theorem rd_get {f : List Int} {i : Nat} (h : i < f.length) : rd f (i : Int) = f[i] := by simp [rd, h]
theorem rdT_get {l : List S30} {i : Nat} (h : i < l.length) : rd_T30 l (i : Int) = l[i] := by simp [rd_T30, h]
theorem Within.sum : ∀ {l : List S30} {f : List Int}, Within l f → 0 ≤ sumL f ∧ sumL f ≤ sumCap l
  | [], [], _ => ⟨Int.le_refl _, Int.le_refl _⟩
  | a :: l, x :: f, h => by
    have := Within.sum h.2.2
    have h1 := h.1
    have h2 := h.2.1
    simp only [sumL, sumCap]; omega
  | [], _ :: _, h => h.elim
  | _ :: _, [], h => h.elim
theorem Within.nonneg : ∀ {l : List S30} {f : List Int}, Within l f → ∀ x ∈ f, 0 ≤ x
  | [], [], _, x, hx => by cases hx
  | a :: l, y :: f, h, x, hx => by
    rcases List.mem_cons.1 hx with rfl | hx
    · exact h.1
    · exact Within.nonneg h.2.2 x hx
  | [], _ :: _, h, _, _ => h.elim
  | _ :: _, [], h, _, _ => h.elim
theorem Within.drop : ∀ {l : List S30} {f : List Int}, Within l f → ∀ i, Within (l.drop i) (f.drop i)
  | l, f, h, 0 => by simpa using h
  | [], [], _, _ + 1 => trivial
  | _ :: _, _ :: _, h, i + 1 => by simpa using Within.drop h.2.2 i
  | [], _ :: _, h, _ + 1 => h.elim
  | _ :: _, [], h, _ + 1 => h.elim
theorem Within.zeros : ∀ {l : List S30}, (∀ a ∈ l, 0 ≤ a.f2) → Within l (List.replicate l.length 0)
  | [], _ => trivial
  | a :: l, h => ⟨Int.le_refl _, h a List.mem_cons_self, Within.zeros (fun x hx => h x (List.mem_cons_of_mem _ hx))⟩
theorem exc_zeros : ∀ (l : List S30) (n : Nat) (v : Int), exc l (List.replicate n 0) v = 0
  | [], _, _ => by simp [exc]
  | _ :: _, 0, _ => by simp [exc]
  | a :: l, n + 1, v => by
    simp only [List.replicate_succ, exc, exc_zeros l n v]
    split <;> split <;> rfl
theorem Within.set : ∀ {l : List S30} {f : List Int}, Within l f → ∀ (i : Nat) (x : Int), 0 ≤ x → (∀ h : i < l.length, x ≤ (l[i]).f2) → Within l (f.set i x)
  | [], [], _, _, _, _, _ => by simp [Within]
  | a :: l, y :: f, h, 0, x, h0, hx => ⟨h0, hx (by simp), h.2.2⟩
  | a :: l, y :: f, h, i + 1, x, h0, hx => ⟨h.1, h.2.1, Within.set h.2.2 i x h0 (fun h' => by have := hx (by simpa using h'); simpa using this)⟩
  | [], _ :: _, h, _, _, _, _ => h.elim
  | _ :: _, [], h, _, _, _, _ => h.elim
/-- A flow. -/
structure IsFlow (n s t : Int) (l : List S30) (f : List Int) : Prop where
  within : Within l f
  cons : ∀ v, 1 ≤ v → v ≤ n → v ≠ s → v ≠ t → exc l f v = 0
theorem IsFlow.zeros {n s t : Int} {l : List S30} (h : ∀ a ∈ l, GoodArc n a) : IsFlow n s t l (List.replicate l.length 0) :=
  ⟨Within.zeros (fun a ha => (h a ha).2.2.2.2), fun v _ _ _ _ => exc_zeros _ _ _⟩
theorem rd_set {xs : List Int} {j u x : Int} (h0 : 0 ≤ j) (h1 : j < (xs.length : Int)) (hu : 0 ≤ u) : rd (xs.set j.toNat x) u = if j = u then x else rd xs u := by
  unfold rd
  rw [List.getD_eq_getElem?_getD, List.getD_eq_getElem?_getD, List.getElem?_set]
  by_cases e : j = u
  · subst e
    rw [if_pos rfl, if_pos (by omega), if_pos rfl]; rfl
  · rw [if_neg (by omega), if_neg e]
theorem sumL_drop {f : List Int} {i : Nat} (h : i < f.length) : sumL (f.drop i) = f[i] + sumL (f.drop (i + 1)) := by
  rw [List.drop_eq_getElem_cons h]; rfl
theorem sumL_nonneg : ∀ {g : List Int}, (∀ x ∈ g, 0 ≤ x) → 0 ≤ sumL g
  | [], _ => Int.le_refl _
  | y :: g, h => by
    have h1 := sumL_nonneg (g := g) (fun x hx => h x (List.mem_cons_of_mem _ hx))
    have h2 := h y List.mem_cons_self
    simp only [sumL]; omega
theorem exc_loop {n : Int} {l : List S30} {f : List Int} (hg : ∀ a ∈ l, GoodArc n a) (hf : ∀ x ∈ f, 0 ≤ x) (hlen : f.length = l.length) (hS : sumL f ≤ 4611686018427387903) (hl : l.length ≤ 2000) (d : Nat) :
    ∀ (i : Nat) (out : List Int), i + d = l.length → (out.length : Int) = n + 1 → (∀ v, 0 ≤ v → v ≤ n → -(sumL f - sumL (f.drop i)) ≤ rd out v ∧ rd out v ≤ sumL f - sumL (f.drop i)) →
      ∃ out', Ev (fun k => flow_excesses.l0 k f out l (l.length : Int) (i : Int)) out' ∧ (out'.length : Int) = n + 1 ∧ ∀ v, 0 ≤ v → v ≤ n → rd out' v = rd out v + exc (l.drop i) (f.drop i) v := by
  induction d with
  | zero =>
    intro i out hi ho _
    refine ⟨out, Ev.step (f := fun _ => some out) (fun k => ?_) (Ev.now _), ho, fun v _ _ => ?_⟩
    · simp only [flow_excesses.l0]
      rw [if_neg (by omega)]
    · rw [List.drop_of_length_le (show l.length ≤ i by omega), exc_nil]; omega
  | succ d ih =>
    intro i out hi ho hb
    have hil : i < l.length := by omega
    have hif : i < f.length := by omega
    obtain ⟨g0, g1, g2, g3, _⟩ := hg l[i] (List.getElem_mem hil)
    have hx0 := hf f[i] (List.getElem_mem hif)
    have hsd := sumL_drop hif
    have hsn := sumL_nonneg (g := f.drop (i + 1)) (fun x hx => hf x (List.mem_of_mem_drop hx))
    have b0 := hb (l[i]).f0 (by omega) g1
    have e1 : wrap64 (rd out (l[i]).f0 - f[i]) = rd out (l[i]).f0 - f[i] := wrap_id (by omega) (by omega)
    have hr1 : ∀ u, 0 ≤ u → rd (out.set ((l[i]).f0).toNat (rd out (l[i]).f0 - f[i])) u = if (l[i]).f0 = u then rd out (l[i]).f0 - f[i] else rd out u := fun u hu => rd_set (by omega) (by omega) hu
    have b1 := hb (l[i]).f1 (by omega) g3
    have e2 : wrap64 (rd (out.set ((l[i]).f0).toNat (rd out (l[i]).f0 - f[i])) (l[i]).f1 + f[i]) = rd (out.set ((l[i]).f0).toNat (rd out (l[i]).f0 - f[i])) (l[i]).f1 + f[i] := by
      have := hr1 (l[i]).f1 (by omega)
      rw [this]
      split <;> exact wrap_id (by omega) (by omega)
    have hr2 : ∀ u, 0 ≤ u → rd ((out.set ((l[i]).f0).toNat (rd out (l[i]).f0 - f[i])).set ((l[i]).f1).toNat (rd (out.set ((l[i]).f0).toNat (rd out (l[i]).f0 - f[i])) (l[i]).f1 + f[i])) u = rd out u + ((if (l[i]).f1 = u then f[i] else 0) - (if (l[i]).f0 = u then f[i] else 0)) := by
      intro u hu
      rw [rd_set (by omega) (by rw [List.length_set]; omega) hu, hr1 (l[i]).f1 (by omega), hr1 u hu]
      by_cases c1 : (l[i]).f1 = u
      · by_cases c0 : (l[i]).f0 = u
        · rw [if_pos c1, if_pos (by omega), if_pos c1, if_pos c0, c0]; omega
        · rw [if_pos c1, if_neg (by omega), if_pos c1, if_neg c0, c1]; omega
      · by_cases c0 : (l[i]).f0 = u
        · rw [if_neg c1, if_pos c0, if_neg c1, if_pos c0, c0]; omega
        · rw [if_neg c1, if_neg c0, if_neg c1, if_neg c0]; omega
    obtain ⟨Y, hYd⟩ : ∃ Y, ((out.set ((l[i]).f0).toNat (rd out (l[i]).f0 - f[i])).set ((l[i]).f1).toNat (rd (out.set ((l[i]).f0).toNat (rd out (l[i]).f0 - f[i])) (l[i]).f1 + f[i])) = Y := ⟨_, rfl⟩
    rw [hYd] at hr2
    obtain ⟨out', h1, h2, h3⟩ := ih (i + 1) Y (by omega) (by rw [← hYd, List.length_set, List.length_set]; exact ho) (fun v hv0 hv1 => by
      have hbv := hb v hv0 hv1
      have e := hr2 v hv0
      rw [e]
      by_cases c1 : (l[i]).f1 = v
      · by_cases c0 : (l[i]).f0 = v
        · rw [if_pos c1, if_pos c0]; omega
        · rw [if_pos c1, if_neg c0]; omega
      · by_cases c0 : (l[i]).f0 = v
        · rw [if_neg c1, if_pos c0]; omega
        · rw [if_neg c1, if_neg c0]; omega)
    refine ⟨out', Ev.step (fun k => ?_) h1, h2, fun v hv0 hv1 => ?_⟩
    · simp only [flow_excesses.l0]
      rw [if_pos (by omega), if_pos (by omega), if_pos (by omega), rdT_get hil, rd_get hif, if_pos (by omega), if_pos (by omega), if_pos (by omega), e1]
      simp only [Option.bind_some]
      rw [if_pos (by omega), if_pos (by omega), e2, wrap_id (by omega) (by omega), hYd]
      rfl
    · rw [h3 v hv0 hv1, hr2 v hv0, List.drop_eq_getElem_cons hil, List.drop_eq_getElem_cons hif]
      simp only [exc]; omega
theorem rd_replicate (m : Nat) (v : Int) : rd (List.replicate m 0) v = 0 := by
  unfold rd
  rw [List.getD_eq_getElem?_getD, List.getElem?_replicate]
  split <;> rfl
/-- All excesses. -/
theorem excesses_ev {n s t : Int} {l : List S30} {f : List Int} (R : Right n s t l) (W : Within l f) :
    ∃ out, Ev (fun k => flow_excesses.f k n s t l f) out ∧ (out.length : Int) = n + 1 ∧ ∀ v, 0 ≤ v → v ≤ n → rd out v = exc l f v := by
  have h1 := R.n2
  have h2 := R.n500
  have hs := W.sum
  have hR := R.sum
  obtain ⟨out, ho, hl, hv⟩ := exc_loop R.arcs W.nonneg W.len (by omega) R.len l.length 0 (List.replicate (n + 1).toNat 0) (by omega) (by simp; omega) (fun v _ _ => by rw [rd_replicate, List.drop_zero]; omega)
  refine ⟨out, Ev.congr (fun k => ?_) ho, hl, fun v h0 h3 => ?_⟩
  · unfold flow_excesses.f
    rw [wrap_id (x := n + 1) (by omega) (by omega), if_pos (by omega), if_pos (by omega)]
    rfl
  · rw [hv v h0 h3, rd_replicate, List.drop_zero, List.drop_zero]; omega
theorem within_loop {n s t : Int} {l : List S30} {f : List Int} (W : Within l f) (hl : l.length ≤ 2000) (d : Nat) : ∀ i : Nat, i + d = f.length → Ev (fun k => flow_within.l0 k f (f.length : Int) (i : Int) n s t l) 0 := by
  have hlen := W.len
  induction d with
  | zero =>
    intro i hi
    refine Ev.step (f := fun _ => some 0) (fun k => ?_) (Ev.now _)
    simp only [flow_within.l0]
    rw [if_neg (by omega)]
  | succ d ih =>
    intro i hi
    have hif : i < f.length := by omega
    have hil : i < l.length := by omega
    have hb := W.get i hil hif
    refine Ev.step (fun k => ?_) (ih (i + 1) (by omega))
    simp only [flow_within.l0]
    rw [if_pos (by omega), if_pos (by omega), if_pos (by omega), rd_get hif, rdT_get hil, if_neg (by omega), if_pos (by omega), if_neg (by omega), wrap_id (by omega) (by omega)]
    rfl
theorem within_yes {n s t : Int} {l : List S30} {f : List Int} (R : Right n s t l) (W : Within l f) : Ev (fun k => flow_within.f k n s t l f) 0 := by
  have hlen := W.len
  refine Ev.congr (fun k => ?_) (within_loop (n := n) (s := s) (t := t) W R.len f.length 0 (by omega))
  unfold flow_within.f
  rw [R.check]
  simp only [Option.bind_some, if_true]
  rw [if_pos (by omega)]
  rfl
theorem check_loop {n s t : Int} {l : List S30} {x : List Int} (hn : n ≤ 500) (hx : (x.length : Int) = n + 1) (d : Nat) : ∀ i : Nat, (i : Int) + d = n → (∀ v, (i : Int) < v → v ≤ n → v ≠ s → v ≠ t → rd x v = 0) →
    Ev (fun k => flow_Check.l0 k x n (i : Int) n s t l) 0 := by
  induction d with
  | zero =>
    intro i hi _
    refine Ev.step (f := fun _ => some 0) (fun k => ?_) (Ev.now _)
    simp only [flow_Check.l0]
    rw [if_neg (by omega)]
  | succ d ih =>
    intro i hi hz
    refine Ev.step (fun k => ?_) (ih (i + 1) (by omega) (fun v h1 h2 h3 h4 => hz v (by omega) h2 h3 h4))
    simp only [flow_Check.l0]
    rw [if_pos (by omega), wrap_id (by omega) (by omega)]
    by_cases c1 : (i : Int) + 1 = s
    · rw [if_pos c1]; rfl
    · by_cases c2 : (i : Int) + 1 = t
      · rw [if_neg c1, if_pos c2]; rfl
      · rw [if_neg c1, if_neg c2, if_pos (by omega), if_pos (by omega), if_pos (hz _ (by omega) (by omega) c1 c2)]; rfl
theorem check_flow {n s t : Int} {l : List S30} {f : List Int} (R : Right n s t l) (F : IsFlow n s t l f) : Ev (fun k => flow_Check.f k n s t l f) 0 := by
  obtain ⟨x, h1, h2, h3⟩ := excesses_ev R F.within
  have hn := R.n2
  unfold flow_Check.f
  refine Ev.bind (within_yes R F.within) ?_
  simp only [if_true]
  refine Ev.bind h1 ?_
  exact check_loop R.n500 h2 n.toNat 0 (by omega) (fun v hv1 hv2 hv3 hv4 => by rw [h3 v (by omega) hv2]; exact F.cons v (by omega) hv2 hv3 hv4)
theorem wrap_succ {i : Nat} (h : i ≤ 1000000) : wrap64 ((i : Int) + 1) = ((i + 1 : Nat) : Int) := by rw [wrap_id (by omega) (by omega)]; rfl
theorem rdT_mem {l : List S30} {i : Int} (h0 : 0 ≤ i) (h1 : i < (l.length : Int)) : rd_T30 l i ∈ l := by
  have hlt : i.toNat < l.length := by omega
  have : rd_T30 l i = l[i.toNat] := by unfold rd_T30; rw [List.getD_eq_getElem?_getD, List.getElem?_eq_getElem hlt]; rfl
  rw [this]; exact List.getElem_mem hlt
/-! Residual tracks: r leads along arc r/2, backwards where r is odd. -/
theorem bit_odd {r : Int} (h0 : 0 ≤ r) (h1 : r ≤ 1000000) : Go.bits .and .i64 r 1 = r % 2 := by
  obtain ⟨i, rfl⟩ : ∃ i : Nat, r = (i : Int) := ⟨r.toNat, by omega⟩
  rw [Go.Proofs.and_one i (by omega)]; omega
theorem tdiv2 {r : Int} (h0 : 0 ≤ r) : Int.tdiv r 2 = r / 2 := Int.tdiv_eq_ediv_of_nonneg h0
def fromOf (l : List S30) (r : Int) : Int := if r % 2 = 1 then (rd_T30 l (r / 2)).f1 else (rd_T30 l (r / 2)).f0
def toOf (l : List S30) (r : Int) : Int := if r % 2 = 1 then (rd_T30 l (r / 2)).f0 else (rd_T30 l (r / 2)).f1
def InR (l : List S30) (r : Int) : Prop := 0 ≤ r ∧ r < 2 * (l.length : Int)
theorem ends_ev {n s t r : Int} {l : List S30} (h : InR l r) (hl : l.length ≤ 2000) : Ev (fun k => residual_Ends.f k n s t l r) (fromOf l r, toOf l r) := by
  obtain ⟨h0, h1⟩ := h
  have hd : wrap64 (Int.tdiv r 2) = r / 2 := by rw [tdiv2 h0, wrap_id (by omega) (by omega)]
  have e : Ev (fun k => residual_Ends.j0 k r (decide (wrap64 (Int.tdiv r 2) ≥ (l.length : Int))) n s t l) (fromOf l r, toOf l r) := by
    refine Ev.step (f := fun _ => some (fromOf l r, toOf l r)) (fun k => ?_) (Ev.now _)
    simp only [residual_Ends.j0, hd, bit_odd h0 (show r ≤ 1000000 by omega)]
    rw [if_neg (by simp; omega), if_pos (by omega), if_pos (by omega)]
    unfold fromOf toOf
    by_cases c : r % 2 = 1
    · rw [if_pos c, if_pos c, if_pos c]
    · rw [if_neg c, if_neg c, if_neg c]
  refine Ev.congr (fun k => ?_) e
  unfold residual_Ends.f
  rw [if_neg (by omega)]
theorem ends_range {n : Int} {l : List S30} {r : Int} (hg : ∀ a ∈ l, GoodArc n a) (h : InR l r) : 1 ≤ fromOf l r ∧ fromOf l r ≤ n ∧ 1 ≤ toOf l r ∧ toOf l r ≤ n := by
  obtain ⟨h0, h1⟩ := h
  obtain ⟨g0, g1, g2, g3, _⟩ := hg _ (rdT_mem (l := l) (i := r / 2) (by omega) (by omega))
  unfold fromOf toOf
  split <;> omega
theorem roomOf_len : ∀ {l : List S30} {f : List Int}, f.length = l.length → (roomOf l f).length = 2 * l.length
  | [], [], _ => rfl
  | a :: l, x :: f, h => by
    have := roomOf_len (l := l) (f := f) (by simpa using h)
    simp only [roomOf, List.length_cons, this]; omega
  | [], _ :: _, h => absurd h (by simp)
  | _ :: _, [], h => absurd h (by simp)
theorem roomOf_get : ∀ {l : List S30} {f : List Int} (W : Within l f) (hcap : ∀ a ∈ l, a.f2 < 1000000000000) (i : Nat), i < l.length →
    (roomOf l f)[2 * i]? = some ((rd_T30 l (i : Int)).f2 - rd f (i : Int)) ∧ (roomOf l f)[2 * i + 1]? = some (rd f (i : Int))
  | [], _, _, _, i, h => absurd h (by simp)
  | _ :: _, [], W, _, _, _ => W.elim
  | a :: l, x :: f, W, hcap, 0, _ => by
    have h0 := W.1
    have h1 := W.2.1
    have h2 := hcap a List.mem_cons_self
    simp only [roomOf, rd, rd_T30]
    simp only [Nat.mul_zero, Nat.zero_add, List.getElem?_cons_zero, List.getElem?_cons_succ]
    rw [wrap_id (by omega) (by omega)]
    exact ⟨rfl, rfl⟩
  | a :: l, x :: f, W, hcap, i + 1, h => by
    have ih := roomOf_get W.2.2 (fun b hb => hcap b (List.mem_cons_of_mem _ hb)) i (by simpa using h)
    have e1 : rd (x :: f) ((i + 1 : Nat) : Int) = rd f (i : Int) := by
      unfold rd
      rw [show ((i + 1 : Nat) : Int).toNat = i + 1 by omega, show (i : Int).toNat = i by omega]; rfl
    have e2 : rd_T30 (a :: l) ((i + 1 : Nat) : Int) = rd_T30 l (i : Int) := by
      unfold rd_T30
      rw [show ((i + 1 : Nat) : Int).toNat = i + 1 by omega, show (i : Int).toNat = i by omega]; rfl
    rw [e1, e2]
    simp only [roomOf]
    rw [show 2 * (i + 1) = 2 * i + 1 + 1 by omega, show 2 * i + 1 + 1 + 1 = (2 * i + 1) + 1 + 1 by omega]
    simp only [List.getElem?_cons_succ]
    exact ih
theorem roomOf_rd {l : List S30} {f : List Int} (W : Within l f) (hcap : ∀ a ∈ l, a.f2 < 1000000000000) {i : Int} (h0 : 0 ≤ i) (h1 : i < (l.length : Int)) :
    rd (roomOf l f) (2 * i) = (rd_T30 l i).f2 - rd f i ∧ rd (roomOf l f) (2 * i + 1) = rd f i := by
  obtain ⟨j, rfl⟩ : ∃ j : Nat, i = (j : Int) := ⟨i.toNat, by omega⟩
  obtain ⟨a, b⟩ := roomOf_get W hcap j (by omega)
  constructor
  · show (roomOf l f).getD (2 * (j : Int)).toNat 0 = _
    rw [List.getD_eq_getElem?_getD, show (2 * (j : Int)).toNat = 2 * j by omega, a]; rfl
  · show (roomOf l f).getD (2 * (j : Int) + 1).toNat 0 = _
    rw [List.getD_eq_getElem?_getD, show (2 * (j : Int) + 1).toNat = 2 * j + 1 by omega, b]; rfl
theorem room_ev {n s t : Int} {l : List S30} {f : List Int} (R : Right n s t l) (F : IsFlow n s t l f) : Ev (fun k => residual_Room.f k n s t l f) (roomOf l f, 0) := by
  have hlen := F.within.len
  have hl := R.len
  unfold residual_Room.f
  refine Ev.bind (check_flow R F) ?_
  have c : f.length ≤ l.length ∧ f.length ≤ 8796093022208 := by omega
  simp only [if_true, if_pos c]
  exact Ev.now _
/-! Levels: what the search by levels tells. -/
def cntM : List Int → Nat
  | [] => 0
  | x :: t => (if x = -1 then 1 else 0) + cntM t
theorem cntM_set {x : Int} (hx : x ≠ -1) : ∀ {m : List Int} {i : Nat} (h : i < m.length), m[i] = -1 → cntM (m.set i x) + 1 = cntM m
  | [], i, h, _ => absurd h (by simp)
  | y :: t, 0, _, hy => by
    have hy : y = -1 := hy
    simp only [List.set_cons_zero, cntM, if_neg hx, if_pos hy]
    omega
  | y :: t, i + 1, h, hy => by
    have h1 : i < t.length := by simpa using h
    have ih := cntM_set hx h1 (by simpa using hy)
    simp only [List.set_cons_succ, cntM]
    omega
theorem cntM_replicate : ∀ k, cntM (List.replicate k (-1)) = k
  | 0 => rfl
  | k + 1 => by rw [List.replicate_succ, cntM, cntM_replicate k, if_pos rfl]; omega
theorem cntM_le : ∀ m : List Int, cntM m ≤ m.length
  | [] => Nat.le_refl _
  | x :: t => by have := cntM_le t; simp only [cntM, List.length_cons]; split <;> omega
theorem cntM_pos {m : List Int} (h : 0 < m.length) (h0 : rd m 0 = -1) : 1 ≤ cntM m := by
  cases m with
  | nil => exact absurd h (by simp)
  | cons x t =>
    have hx : x = -1 := by simpa [rd] using h0
    simp only [cntM, if_pos hx]; omega
theorem tracks_at {fr : Int → Int} {m : Nat} : ∀ (N v : Nat), v < m → ∃ x, (Go.Proofs.YtdiaedecnfbgdaaW.Mine.trAll fr m N)[v]? = some x ∧ ∀ r, (0 ≤ r ∧ r < (N : Int) ∧ (fr r).toNat = v) ↔ r ∈ x
  | 0, v, h => ⟨[], by simp [Go.Proofs.YtdiaedecnfbgdaaW.Mine.trAll, h], fun r => ⟨fun hr => by omega, fun hr => by cases hr⟩⟩
  | N + 1, v, h => by
    obtain ⟨x, hx, hr⟩ := tracks_at (fr := fr) (m := m) N v h
    have hl := Go.Proofs.YtdiaedecnfbgdaaW.Mine.trAll_length fr m N
    simp only [Go.Proofs.YtdiaedecnfbgdaaW.Mine.trAll, Go.Proofs.YtdiaedecnfbgdaaW.Mine.trAdd]
    by_cases c : (fr (N : Int)).toNat = v
    · rw [c]
      have e : (Go.Proofs.YtdiaedecnfbgdaaW.Mine.trAll fr m N).getD v [] = x := by rw [List.getD_eq_getElem?_getD, hx]; rfl
      refine ⟨x ++ [(N : Int)], by rw [List.getElem?_set_self (by omega), e], fun r => ?_⟩
      rw [List.mem_append, List.mem_singleton, ← hr r]
      constructor
      · intro h1
        by_cases c2 : r = (N : Int)
        · exact .inr c2
        · exact .inl ⟨h1.1, by omega, h1.2.2⟩
      · rintro (h1 | rfl)
        · exact ⟨h1.1, by omega, h1.2.2⟩
        · exact ⟨by omega, by omega, c⟩
    · refine ⟨x, by rw [List.getElem?_set_ne c]; exact hx, fun r => ?_⟩
      rw [← hr r]
      constructor
      · intro h1
        refine ⟨h1.1, ?_, h1.2.2⟩
        by_cases c2 : r = (N : Int)
        · subst c2; exact absurd h1.2.2 c
        · omega
      · intro h1
        exact ⟨h1.1, by omega, h1.2.2⟩
/-- Levels, as they must be. -/
structure IsUp (n s : Int) (l : List S30) (room : List Int) (least : Int) (up : List Int) : Prop where
  len : (up.length : Int) = n + 1
  src : rd up s = 0
  rng : ∀ v, 0 ≤ v → v ≤ n → rd up v = -1 ∨ 0 ≤ rd up v ∧ rd up v < n
  zero : ∀ v, 0 ≤ v → v ≤ n → rd up v = 0 → v = s
  none0 : rd up 0 = -1
  step : ∀ r, InR l r → least ≤ rd room r → 0 ≤ rd up (fromOf l r) → 0 ≤ rd up (toOf l r) ∧ rd up (toOf l r) ≤ rd up (fromOf l r) + 1
  pred : ∀ v, 0 ≤ v → v ≤ n → 0 < rd up v → ∃ r, InR l r ∧ least ≤ rd room r ∧ toOf l r = v ∧ rd up (fromOf l r) = rd up v - 1
/-- In the midst of a turn, that began with 'out'. -/
structure Mid (n : Int) (l : List S30) (room : List Int) (least k : Int) (out o nx : List Int) : Prop where
  len : o.length = out.length
  old : ∀ v, 0 ≤ v → v ≤ n → rd o v = rd out v ∨ rd out v = -1 ∧ rd o v = k
  mem : ∀ v, v ∈ nx ↔ 0 ≤ v ∧ v ≤ n ∧ rd o v = k
  cnt : nx.length + cntM o = cntM out
  pred : ∀ v, 0 ≤ v → v ≤ n → rd o v = k → ∃ r, InR l r ∧ least ≤ rd room r ∧ toOf l r = v ∧ rd out (fromOf l r) = k - 1
  none0 : rd o 0 = -1
section
variable {n s least k : Int} {l : List S30} {room out : List Int}
theorem Mid.one {o nx : List Int} (hg : ∀ a ∈ l, GoodArc n a) (hlen : (out.length : Int) = n + 1) (hk : 1 ≤ k) (M : Mid n l room least k out o nx) {r : Int} (hr : InR l r) (hv : rd out (fromOf l r) = k - 1) :
    Mid n l room least k out (lvOne l room least k (o, nx) r).1 (lvOne l room least k (o, nx) r).2 ∧ (least ≤ rd room r → rd (lvOne l room least k (o, nx) r).1 (toOf l r) ≠ -1) ∧ ∀ v, 0 ≤ v → rd o v ≠ -1 → rd (lvOne l room least k (o, nx) r).1 v = rd o v := by
  obtain ⟨_, _, t1, tn⟩ := ends_range hg hr
  have et : lvTo l r = toOf l r := rfl
  have hl := M.len
  unfold lvOne
  rw [et]
  by_cases c : least ≤ rd room r ∧ rd o (toOf l r) = -1
  · rw [if_pos c]
    have hs : ∀ u, 0 ≤ u → rd (o.set (toOf l r).toNat k) u = if toOf l r = u then k else rd o u := fun u hu => rd_set (by omega) (by omega) hu
    have hold : rd out (toOf l r) = -1 := by
      rcases M.old (toOf l r) (by omega) tn with h | h
      · rw [← h]; exact c.2
      · exact h.1
    have hil : (toOf l r).toNat < o.length := by omega
    have hget : o[(toOf l r).toNat] = -1 := by
      have h := rd_get (f := o) hil
      rw [Int.toNat_of_nonneg (by omega)] at h
      rw [← h]; exact c.2
    refine ⟨⟨by rw [List.length_set]; exact hl, fun v v0 vn => ?_, fun v => ?_, ?_, fun v v0 vn h => ?_, ?_⟩, fun _ => ?_, fun v v0 h => ?_⟩
    · show rd (o.set (toOf l r).toNat k) v = rd out v ∨ rd out v = -1 ∧ rd (o.set (toOf l r).toNat k) v = k
      rw [hs v v0]
      by_cases e : toOf l r = v
      · rw [if_pos e, ← e]; exact .inr ⟨hold, rfl⟩
      · rw [if_neg e]; exact M.old v v0 vn
    · show v ∈ nx ++ [toOf l r] ↔ 0 ≤ v ∧ v ≤ n ∧ rd (o.set (toOf l r).toNat k) v = k
      rw [List.mem_append, List.mem_singleton, M.mem v]
      constructor
      · rintro (⟨v0, vn, h⟩ | rfl)
        · refine ⟨v0, vn, ?_⟩
          rw [hs v v0]
          split
          · rfl
          · exact h
        · refine ⟨by omega, tn, ?_⟩
          rw [hs _ (by omega), if_pos rfl]
      · rintro ⟨v0, vn, h⟩
        rw [hs v v0] at h
        by_cases e : toOf l r = v
        · exact .inr e.symm
        · rw [if_neg e] at h
          exact .inl ⟨v0, vn, h⟩
    · show (nx ++ [toOf l r]).length + cntM (o.set (toOf l r).toNat k) = cntM out
      have h1 := cntM_set (x := k) (by omega) hil hget
      have h2 := M.cnt
      rw [List.length_append, List.length_singleton]
      omega
    · have h : rd (o.set (toOf l r).toNat k) v = k := h
      rw [hs v v0] at h
      by_cases e : toOf l r = v
      · exact ⟨r, hr, c.1, e, hv⟩
      · rw [if_neg e] at h
        exact M.pred v v0 vn h
    · show rd (o.set (toOf l r).toNat k) 0 = -1
      rw [hs 0 (by omega), if_neg (by omega)]
      exact M.none0
    · show rd (o.set (toOf l r).toNat k) (toOf l r) ≠ -1
      rw [hs _ (by omega), if_pos rfl]
      omega
    · show rd (o.set (toOf l r).toNat k) v = rd o v
      rw [hs v v0, if_neg]
      intro e
      rw [← e] at h
      exact h c.2
  · rw [if_neg c]
    exact ⟨M, fun h e => c ⟨h, e⟩, fun _ _ _ => rfl⟩
theorem Mid.scan (hg : ∀ a ∈ l, GoodArc n a) (hlen : (out.length : Int) = n + 1) (hk : 1 ≤ k) : ∀ (rs : List Int) {o nx : List Int}, Mid n l room least k out o nx → (∀ r ∈ rs, InR l r ∧ rd out (fromOf l r) = k - 1) →
    Mid n l room least k out (lvScan l room least k (o, nx) rs).1 (lvScan l room least k (o, nx) rs).2 ∧ (∀ r ∈ rs, least ≤ rd room r → rd (lvScan l room least k (o, nx) rs).1 (toOf l r) ≠ -1) ∧ ∀ v, 0 ≤ v → rd o v ≠ -1 → rd (lvScan l room least k (o, nx) rs).1 v = rd o v
  | [], o, nx, M, _ => ⟨M, fun r hr => (by cases hr), fun _ _ _ => rfl⟩
  | r :: rs, o, nx, M, h => by
    obtain ⟨hr, hv⟩ := h r List.mem_cons_self
    obtain ⟨M1, h1, h2⟩ := M.one hg hlen hk hr hv
    obtain ⟨M2, h3, h4⟩ := Mid.scan hg hlen hk rs M1 (fun q hq => h q (List.mem_cons_of_mem _ hq))
    obtain ⟨_, _, t1, tn⟩ := ends_range hg hr
    rw [lvScan_cons]
    refine ⟨M2, fun q hq hroom => ?_, fun v v0 hv => ?_⟩
    · rcases List.mem_cons.1 hq with rfl | hq
      · rw [h4 _ (by omega) (h1 hroom)]
        exact h1 hroom
      · exact h3 q hq hroom
    · have e := h2 v v0 hv
      rw [h4 v v0 (by rw [e]; exact hv), e]
theorem Mid.row {ts : List (List Int)} (hg : ∀ a ∈ l, GoodArc n a) (hlen : (out.length : Int) = n + 1) (hk : 1 ≤ k) (hts : ∀ v, 0 ≤ v → v ≤ n → ∀ r, r ∈ ts.getD v.toNat [] ↔ InR l r ∧ fromOf l r = v) :
    ∀ (vs : List Int) {o nx : List Int}, Mid n l room least k out o nx → (∀ v ∈ vs, 0 ≤ v ∧ v ≤ n ∧ rd out v = k - 1) →
    Mid n l room least k out (lvRow l room ts least k (o, nx) vs).1 (lvRow l room ts least k (o, nx) vs).2 ∧ (∀ r, InR l r → fromOf l r ∈ vs → least ≤ rd room r → rd (lvRow l room ts least k (o, nx) vs).1 (toOf l r) ≠ -1) ∧ ∀ v, 0 ≤ v → rd o v ≠ -1 → rd (lvRow l room ts least k (o, nx) vs).1 v = rd o v
  | [], o, nx, M, _ => ⟨M, fun r _ hr => (by cases hr), fun _ _ _ => rfl⟩
  | v :: vs, o, nx, M, h => by
    obtain ⟨v0, vn, hv⟩ := h v List.mem_cons_self
    obtain ⟨M1, h1, h2⟩ := Mid.scan hg hlen hk (ts.getD v.toNat []) M (fun r hr => by
      obtain ⟨a, b⟩ := (hts v v0 vn r).1 hr
      exact ⟨a, by rw [b]; exact hv⟩)
    obtain ⟨M2, h3, h4⟩ := Mid.row hg hlen hk hts vs M1 (fun q hq => h q (List.mem_cons_of_mem _ hq))
    rw [lvRow_cons]
    refine ⟨M2, fun q hq hm hroom => ?_, fun u u0 hu => ?_⟩
    · obtain ⟨_, _, t1, tn⟩ := ends_range hg hq
      rcases List.mem_cons.1 hm with e | hm
      · have h5 := h1 q ((hts v v0 vn q).2 ⟨hq, e⟩) hroom
        rw [h4 _ (by omega) h5]
        exact h5
      · exact h3 q hq hm hroom
    · have e := h2 u u0 hu
      rw [h4 u u0 (by rw [e]; exact hu), e]
/-- At a turn's begin. -/
structure Inv (n s : Int) (l : List S30) (room : List Int) (least k : Int) (out next : List Int) : Prop where
  k1 : 1 ≤ k
  kn : k ≤ n + 1
  few : next ≠ [] → k + cntM out ≤ n + 1
  len : (out.length : Int) = n + 1
  src : rd out s = 0
  rng : ∀ v, 0 ≤ v → v ≤ n → rd out v = -1 ∨ 0 ≤ rd out v ∧ rd out v ≤ k - 1 ∧ rd out v < n
  mem : ∀ v, v ∈ next ↔ 0 ≤ v ∧ v ≤ n ∧ rd out v = k - 1
  zero : ∀ v, 0 ≤ v → v ≤ n → rd out v = 0 → v = s
  none0 : rd out 0 = -1
  step : ∀ r, InR l r → least ≤ rd room r → 0 ≤ rd out (fromOf l r) → rd out (fromOf l r) < k - 1 → 0 ≤ rd out (toOf l r) ∧ rd out (toOf l r) ≤ rd out (fromOf l r) + 1
  pred : ∀ v, 0 ≤ v → v ≤ n → 0 < rd out v → ∃ r, InR l r ∧ least ≤ rd room r ∧ toOf l r = v ∧ rd out (fromOf l r) = rd out v - 1
theorem turns_ev {ts : List (List Int)} (hg : ∀ a ∈ l, GoodArc n a) (hn : n ≤ 500) (hts : ∀ v, 0 ≤ v → v ≤ n → ∀ r, r ∈ ts.getD v.toNat [] ↔ InR l r ∧ fromOf l r = v) (d : Nat) :
    ∀ (out next : List Int) (k : Int), 2 * cntM out + (if next = [] then 0 else 1) ≤ d → Inv n s l room least k out next → ∃ up, Ev (fun f => lvTurn l room ts least f out next k) up ∧ IsUp n s l room least up := by
  induction d with
  | zero =>
    intro out next k hd I
    have h1 := cntM_pos (m := out) (by have := I.len; have := I.k1; have := I.kn; omega) I.none0
    omega
  | succ d ih =>
    intro out next k hd I
    have hk1 := I.k1
    have hkn := I.kn
    have hc1 := cntM_pos (m := out) (by have := I.len; omega) I.none0
    by_cases hz : next = []
    · subst hz
      refine ⟨out, Ev.step (f := fun _ => some out) (fun f => ?_) (Ev.now _), ⟨I.len, I.src, fun v v0 vn => ?_, I.zero, I.none0, fun r hr hroom h => ?_, I.pred⟩⟩
      · simp [lvTurn]
      · rcases I.rng v v0 vn with h | h
        · exact .inl h
        · exact .inr ⟨h.1, h.2.2⟩
      · obtain ⟨f1, fn, _, _⟩ := ends_range hg hr
        have hne : rd out (fromOf l r) ≠ k - 1 := fun e => by
          have := (I.mem (fromOf l r)).2 ⟨by omega, fn, e⟩
          cases this
        have := I.rng (fromOf l r) (by omega) fn
        exact I.step r hr hroom h (by omega)
    · have M0 : Mid n l room least k out out [] := ⟨rfl, fun v _ _ => .inl rfl, fun v => ⟨fun h => by (cases h), fun ⟨v0, vn, h⟩ => by have := I.rng v v0 vn; omega⟩, by simp, fun v v0 vn h => by have := I.rng v v0 vn; omega, I.none0⟩
      obtain ⟨M, hset, hkeep⟩ := Mid.row (ts := ts) hg I.len hk1 hts next M0 (fun v hv => (I.mem v).1 hv)
      obtain ⟨o, ho⟩ : ∃ o, (lvRow l room ts least k (out, []) next).1 = o := ⟨_, rfl⟩
      obtain ⟨nx, hnx⟩ : ∃ nx, (lvRow l room ts least k (out, []) next).2 = nx := ⟨_, rfl⟩
      rw [ho] at M hset hkeep
      rw [hnx] at M
      have hfew := I.few hz
      have hcnt := M.cnt
      have hcl := cntM_le out
      have hlen := I.len
      have I2 : Inv n s l room least (k + 1) o nx := by
        refine ⟨by omega, by omega, fun hne => ?_, by rw [M.len]; exact hlen, ?_, fun v v0 vn => ?_, fun v => ?_, fun v v0 vn h => ?_, M.none0, fun r hr hroom h hlt => ?_, fun v v0 vn h => ?_⟩
        · have : 0 < nx.length := List.length_pos_iff.2 hne
          omega
        · have hs := (I.mem s)
          by_cases s0 : 0 ≤ s
          · rw [hkeep s s0 (by rw [I.src]; decide), I.src]
          · have h1 := I.src
            unfold rd at h1 ⊢
            have e : s.toNat = 0 := by omega
            have h2 := I.none0
            unfold rd at h2
            rw [e] at h1
            simp at h1 h2
            omega
        · rcases M.old v v0 vn with e | ⟨_, e⟩
          · rw [e]
            have := I.rng v v0 vn
            omega
          · rw [e]
            have : 0 < nx.length := List.length_pos_iff.2 (fun e2 => by have := (M.mem v).2 ⟨v0, vn, e⟩; rw [e2] at this; cases this)
            have hc2 := cntM_pos (m := o) (by have := M.len; omega) M.none0
            omega
        · rw [M.mem v, show k + 1 - 1 = k by omega]
        · rcases M.old v v0 vn with e | ⟨_, e⟩
          · exact I.zero v v0 vn (by rw [← e]; exact h)
          · omega
        · obtain ⟨f1, fn, t1, tn⟩ := ends_range hg hr
          rcases M.old (fromOf l r) (by omega) fn with e | ⟨_, e⟩
          · rw [e] at h hlt ⊢
            by_cases c : rd out (fromOf l r) = k - 1
            · have h5 := hset r hr ((I.mem _).2 ⟨by omega, fn, c⟩) hroom
              rcases M.old (toOf l r) (by omega) tn with e2 | ⟨_, e2⟩
              · have := I.rng (toOf l r) (by omega) tn
                rw [e2] at h5 ⊢
                omega
              · rw [e2]; omega
            · have h6 := I.step r hr hroom h (by omega)
              rw [hkeep (toOf l r) (by omega) (by omega)]
              exact h6
          · omega
        · rcases M.old v v0 vn with e | ⟨_, e⟩
          · rw [e] at h ⊢
            obtain ⟨r, hr, hroom, ht, hf⟩ := I.pred v v0 vn h
            obtain ⟨f1, fn, _, _⟩ := ends_range hg hr
            exact ⟨r, hr, hroom, ht, by rw [hkeep (fromOf l r) (by omega) (by omega)]; exact hf⟩
          · obtain ⟨r, hr, hroom, ht, hf⟩ := M.pred v v0 vn e
            obtain ⟨f1, fn, _, _⟩ := ends_range hg hr
            refine ⟨r, hr, hroom, ht, ?_⟩
            rw [hkeep (fromOf l r) (by omega) (by omega), hf, e]
      have hdd : 2 * cntM o + (if nx = [] then 0 else 1) ≤ d := by
        rw [if_neg hz] at hd
        by_cases c : nx = []
        · rw [if_pos c]
          omega
        · have : 0 < nx.length := List.length_pos_iff.2 c
          rw [if_neg c]
          omega
      obtain ⟨up, hup, U⟩ := ih o nx (k + 1) hdd I2
      refine ⟨up, Ev.step (fun f => ?_) hup, U⟩
      simp only [lvTurn]
      rw [if_neg (fun e => hz (List.length_eq_zero_iff.1 e)), hnx, ho, if_pos (by omega), wrap_id (by omega) (by omega)]
end
theorem levels_ev {n s t least : Int} {l : List S30} {f : List Int} (R : Right n s t l) (F : IsFlow n s t l f) (hl : 1 ≤ least) :
    ∃ up, Ev (fun k => level_Levels.f k n s t l f least) (up, 0) ∧ IsUp n s l (roomOf l f) least up := by
  have h1 := R.n2
  have h2 := R.n500
  have h3 := R.s1
  have h4 := R.sn
  have h5 := R.len
  have hlen : (roomOf l f).length = 2 * l.length := roomOf_len F.1.len
  have hlvl : ((List.replicate (n + 1).toNat (-1)).length : Int) = n + 1 := by rw [List.length_replicate]; omega
  have hrep : ∀ v, 0 ≤ v → v ≤ n → rd (List.replicate (n + 1).toNat (-1)) v = -1 := fun v v0 vn => by
    have : v.toNat < (n + 1).toNat := by omega
    simp [rd, this]
  have hrs : ∀ v, 0 ≤ v → rd ((List.replicate (n + 1).toNat (-1)).set s.toNat 0) v = if s = v then 0 else rd (List.replicate (n + 1).toNat (-1)) v := fun v v0 => rd_set (by omega) (by omega) v0
  have hcn : cntM ((List.replicate (n + 1).toNat (-1)).set s.toNat 0) + 1 = (n + 1).toNat := by
    have := cntM_set (x := 0) (by decide) (m := List.replicate (n + 1).toNat (-1)) (i := s.toNat) (by rw [List.length_replicate]; omega) (by simp)
    rw [cntM_replicate] at this
    exact this
  have hts : ∀ v, 0 ≤ v → v ≤ n → ∀ r, r ∈ (Go.Proofs.YtdiaedecnfbgdaaW.Mine.trAll (lvFrom l) (n + 1).toNat (roomOf l f).length).getD v.toNat [] ↔ InR l r ∧ fromOf l r = v := fun v v0 vn r => by
    obtain ⟨x, hx, hr⟩ := tracks_at (fr := lvFrom l) (m := (n + 1).toNat) (roomOf l f).length v.toNat (by omega)
    rw [List.getD_eq_getElem?_getD, hx]
    show r ∈ x ↔ _
    rw [← hr r]
    have e : lvFrom l r = fromOf l r := rfl
    rw [e, hlen]
    constructor
    · rintro ⟨a, b, c⟩
      have hi : InR l r := ⟨a, by omega⟩
      have := ends_range R.arcs hi
      exact ⟨hi, by omega⟩
    · rintro ⟨a, b⟩
      have := a.1
      have := a.2
      exact ⟨a.1, by omega, by omega⟩
  have I : Inv n s l (roomOf l f) least 1 ((List.replicate (n + 1).toNat (-1)).set s.toNat 0) [s] := by
    refine ⟨by omega, by omega, fun _ => by omega, by rw [List.length_set]; exact hlvl, by rw [hrs s (by omega), if_pos rfl], fun v v0 vn => ?_, fun v => ?_, fun v v0 vn h => ?_, by rw [hrs 0 (by omega), if_neg (by omega)]; exact hrep 0 (by omega) (by omega), fun r hr _ h hlt => by omega, fun v v0 vn h => ?_⟩
    · rw [hrs v v0]
      split
      · exact .inr ⟨by omega, by omega, by omega⟩
      · exact .inl (hrep v v0 vn)
    · rw [List.mem_singleton]
      constructor
      · rintro rfl
        exact ⟨by omega, h4, by rw [hrs _ (by omega), if_pos rfl]; rfl⟩
      · rintro ⟨v0, vn, h⟩
        rw [hrs v v0] at h
        by_cases c : s = v
        · exact c.symm
        · rw [if_neg c, hrep v v0 vn] at h
          omega
    · rw [hrs v v0] at h
      by_cases c : s = v
      · exact c.symm
      · rw [if_neg c, hrep v v0 vn] at h
        omega
    · rw [hrs v v0] at h
      by_cases c : s = v
      · rw [if_pos c] at h; omega
      · rw [if_neg c, hrep v v0 vn] at h
        omega
  obtain ⟨up, hup, U⟩ := turns_ev R.arcs h2 hts _ _ _ _ (Nat.le_refl _) I
  refine ⟨up, ?_, U⟩
  have hfit : lvFit n s l (roomOf l f) = true := by
    simp only [lvFit, Bool.and_eq_true, decide_eq_true_eq, List.all_eq_true]
    refine ⟨⟨by omega, by omega, by omega, h4, h5, hlen⟩, fun a ha => ?_⟩
    obtain ⟨g0, g1, g2, g3, _⟩ := R.arcs a ha
    omega
  unfold level_Levels.f
  refine Ev.bind (room_ev R F) ?_
  simp only [if_true, if_neg (show ¬ least < 1 by omega), hfit]
  exact Ev.bind hup (Ev.now _)
/-! The tracks that lead on. -/
def ld (l : List S30) (room : List Int) (least : Int) (up : List Int) : Nat → List Int
  | 0 => []
  | i + 1 => ld l room least up i ++ (if least ≤ rd room (i : Int) ∧ rd up (fromOf l (i : Int)) ≠ -1 ∧ rd up (toOf l (i : Int)) = rd up (fromOf l (i : Int)) + 1 then [(i : Int)] else [])
theorem ld_len {l : List S30} {room up : List Int} {least : Int} : ∀ m : Nat, (ld l room least up m).length ≤ m
  | 0 => Nat.le_refl _
  | m + 1 => by
    have := ld_len (l := l) (room := room) (up := up) (least := least) m
    rw [ld, List.length_append]
    split <;> simp <;> omega
section
variable {n s t least : Int} {l : List S30} {f up : List Int}
theorem leads_loop (R : Right n s t l) (F : IsFlow n s t l f) (U : IsUp n s l (roomOf l f) least up) (d : Nat) : ∀ i : Nat, i + d = (roomOf l f).length →
    Ev (fun k => level_Leads.l0 k least up (ld l (roomOf l f) least up i) (roomOf l f) ((roomOf l f).length : Int) (i : Int) n s t l) (ld l (roomOf l f) least up (roomOf l f).length, 0) := by
  have hlen : (roomOf l f).length = 2 * l.length := roomOf_len F.1.len
  have h5 := R.len
  have hn := R.n500
  induction d with
  | zero =>
    intro i hi
    have e : i = (roomOf l f).length := by omega
    subst e
    refine Ev.step (f := fun _ => some (ld l (roomOf l f) least up (roomOf l f).length, 0)) (fun k => ?_) (Ev.now _)
    simp only [level_Leads.l0]
    rw [if_neg (by omega)]
  | succ d ih =>
    intro i hi
    have hr : InR l (i : Int) := ⟨by omega, by omega⟩
    obtain ⟨f1, fn, t1, tn⟩ := ends_range R.arcs hr
    have hul := U.len
    have hll := ld_len (l := l) (room := roomOf l f) (up := up) (least := least) i
    have hnext := ih (i + 1) (by omega)
    refine Ev.step (f := ?g) (fun k => ?h) ?e
    case h =>
      simp only [level_Leads.l0]
      rw [if_pos (by omega), if_pos (by omega), if_pos (by omega)]
    case e =>
      refine Ev.bind (ends_ev hr h5) ?_
      simp only
      have hw : wrap64 ((i : Int) + 1) = ((i + 1 : Nat) : Int) := wrap_succ (by omega)
      rw [hw]
      by_cases c : least ≤ rd (roomOf l f) (i : Int) ∧ rd up (fromOf l (i : Int)) ≠ -1 ∧ rd up (toOf l (i : Int)) = rd up (fromOf l (i : Int)) + 1
      · have e : ld l (roomOf l f) least up (i + 1) = ld l (roomOf l f) least up i ++ [(i : Int)] := by rw [ld, if_pos c]
        have hrg := U.rng (fromOf l (i : Int)) (by omega) fn
        have hw2 : wrap64 (rd up (fromOf l (i : Int)) + 1) = rd up (fromOf l (i : Int)) + 1 := wrap_id (by omega) (by omega)
        refine Ev.congr (fun k => ?_) hnext
        rw [if_pos c.1, if_pos (by omega), if_pos (by omega), if_neg c.2.1, if_pos (by omega), if_pos (by omega), if_pos (by rw [hw2]; exact c.2.2), if_pos (by omega), e]
      · have e : ld l (roomOf l f) least up (i + 1) = ld l (roomOf l f) least up i := by rw [ld, if_neg c, List.append_nil]
        refine Ev.congr (fun k => ?_) hnext
        rw [e]
        by_cases c1 : least ≤ rd (roomOf l f) (i : Int)
        · rw [if_pos c1, if_pos (by omega), if_pos (by omega)]
          by_cases c2 : rd up (fromOf l (i : Int)) = -1
          · rw [if_pos c2]
          · have hrg := U.rng (fromOf l (i : Int)) (by omega) fn
            have hw2 : wrap64 (rd up (fromOf l (i : Int)) + 1) = rd up (fromOf l (i : Int)) + 1 := wrap_id (by omega) (by omega)
            rw [if_neg c2, if_pos (by omega), if_pos (by omega), if_neg (fun h => c ⟨c1, c2, by rw [hw2] at h; exact h⟩)]
        · rw [if_neg c1]
theorem leads_ev (R : Right n s t l) (F : IsFlow n s t l f) (hup : Ev (fun k => level_Levels.f k n s t l f least) (up, 0)) (U : IsUp n s l (roomOf l f) least up) :
    Ev (fun k => level_Leads.f k n s t l f least) (ld l (roomOf l f) least up (2 * l.length), 0) := by
  have hlen : (roomOf l f).length = 2 * l.length := roomOf_len F.1.len
  unfold level_Leads.f
  refine Ev.bind hup ?_
  simp only [if_true]
  refine Ev.bind (room_ev R F) ?_
  have := leads_loop R F U (roomOf l f).length 0 (by omega)
  rw [← hlen]
  exact this
end
/-! Arcs beside one another: what plain.Block tells of them. -/
theorem xor_even_small : ∀ i : Fin 200, Go.bits .xor .i64 (2 * (i.val : Int)) 1 = 2 * (i.val : Int) + 1 := by decide +kernel
theorem xor_even {j : Int} (h0 : 0 ≤ j) (h1 : j < 200) : Go.bits .xor .i64 (2 * j) 1 = 2 * j + 1 := by
  have := xor_even_small ⟨j.toNat, by omega⟩
  simp only at this
  rwa [show ((j.toNat : Nat) : Int) = j by omega] at this
/-- The tracks of the first i arcs that have room enough. -/
def gd (room : List Int) (least : Int) : Nat → List Int
  | 0 => []
  | i + 1 => gd room least i ++ (if least ≤ rd room (2 * (i : Int)) then [2 * (i : Int)] else [])
theorem gd_mem {room : List Int} {least r : Int} : ∀ m : Nat, r ∈ gd room least m ↔ ∃ j : Int, r = 2 * j ∧ 0 ≤ j ∧ j < (m : Int) ∧ least ≤ rd room r
  | 0 => ⟨fun h => by (cases h), fun ⟨j, h⟩ => by omega⟩
  | m + 1 => by
    rw [gd, List.mem_append, gd_mem m]
    constructor
    · rintro (⟨j, h⟩ | h)
      · exact ⟨j, h.1, h.2.1, by omega, h.2.2.2⟩
      · split at h
        · obtain rfl := List.mem_singleton.1 h
          exact ⟨m, rfl, by omega, by omega, by assumption⟩
        · cases h
    · rintro ⟨j, h0, h1, h2, h3⟩
      by_cases c : j = (m : Int)
      · subst c
        right
        rw [← h0, if_pos h3]
        exact List.mem_singleton.2 rfl
      · exact .inl ⟨j, h0, h1, by omega, h3⟩
theorem gd_nodup {room : List Int} {least : Int} : ∀ m : Nat, (gd room least m).Nodup
  | 0 => List.nodup_nil
  | m + 1 => by
    rw [gd]
    refine List.nodup_append.2 ⟨gd_nodup m, ?_, fun a ha b hb e => ?_⟩
    · split <;> simp
    · obtain ⟨j, h0, h1, h2, _⟩ := (gd_mem m).1 ha
      split at hb
      · have := List.mem_singleton.1 hb
        omega
      · cases hb
theorem gd_len {room : List Int} {least : Int} : ∀ m : Nat, (gd room least m).length ≤ m
  | 0 => Nat.le_refl _
  | m + 1 => by
    have := gd_len (room := room) (least := least) m
    rw [gd, List.length_append]
    split <;> simp <;> omega
/-- All arcs lead from s to t. -/
structure Bunch (s t : Int) (l : List S30) : Prop where
  arcs : ∀ a ∈ l, a.f0 = s ∧ a.f1 = t ∧ 0 ≤ a.f2 ∧ a.f2 < 100
  st : s = 1 ∧ t = 2 ∨ s = 2 ∧ t = 1
  len : l.length ≤ 80
section
variable {s t least : Int} {l : List S30}
theorem Bunch.good (B : Bunch s t l) : ∀ a ∈ l, GoodArc 2 a := fun a ha => by
  obtain ⟨h0, h1, h2, _⟩ := B.arcs a ha
  have := B.st
  unfold GoodArc
  omega
theorem bunch_sum : ∀ {l : List S30}, (∀ a ∈ l, a.f2 < 100) → sumCap l ≤ 100 * (l.length : Int)
  | [], _ => by simp [sumCap]
  | a :: l, h => by
    have h1 := bunch_sum (fun b hb => h b (List.mem_cons_of_mem _ hb))
    have h2 := h a List.mem_cons_self
    simp only [sumCap, List.length_cons]
    omega
theorem Bunch.right (B : Bunch s t l) : Right 2 s t l := by
  have h1 := B.st
  have h2 := B.len
  have h3 := bunch_sum (fun a ha => (B.arcs a ha).2.2.2)
  exact ⟨by decide, by decide, by omega, by omega, by omega, by omega, by omega, by omega, B.good, by omega⟩
theorem Bunch.ends (B : Bunch s t l) {j : Int} (h0 : 0 ≤ j) (h1 : j < (l.length : Int)) : fromOf l (2 * j) = s ∧ toOf l (2 * j) = t := by
  have hb := B.arcs _ (rdT_mem (l := l) h0 h1)
  unfold fromOf toOf
  rw [if_neg (by omega), if_neg (by omega), show 2 * j / 2 = j by omega]
  exact ⟨hb.1, hb.2.1⟩
theorem Bunch.room (B : Bunch s t l) {j : Int} (h0 : 0 ≤ j) (h1 : j < (l.length : Int)) :
    rd (roomOf l (List.replicate l.length 0)) (2 * j) = (rd_T30 l j).f2 ∧ rd (roomOf l (List.replicate l.length 0)) (2 * j + 1) = 0 := by
  have W : Within l (List.replicate l.length 0) := Within.zeros (fun a ha => (B.arcs a ha).2.2.1)
  obtain ⟨a, b⟩ := roomOf_rd W (fun a ha => by have := (B.arcs a ha).2.2.2; omega) (i := j) h0 h1
  rw [rd_replicate] at a b
  exact ⟨by rw [a]; omega, b⟩
theorem bunch_ld (B : Bunch s t l) (hl : 1 ≤ least) {up : List Int} (U : IsUp 2 s l (roomOf l (List.replicate l.length 0)) least up) : ∀ m : Nat, m ≤ l.length →
    ld l (roomOf l (List.replicate l.length 0)) least up (2 * m) = gd (roomOf l (List.replicate l.length 0)) least m
  | 0, _ => rfl
  | m + 1, h => by
    have ih := bunch_ld B hl U m (by omega)
    obtain ⟨r0, r1⟩ := B.room (j := (m : Int)) (by omega) (by omega)
    obtain ⟨e0, e1⟩ := B.ends (j := (m : Int)) (by omega) (by omega)
    have hst := B.st
    rw [show 2 * (m + 1) = 2 * m + 1 + 1 by omega, ld, ld, gd, ih]
    have c1 : ¬ (least ≤ rd (roomOf l (List.replicate l.length 0)) ((2 * m + 1 : Nat) : Int) ∧ rd up (fromOf l ((2 * m + 1 : Nat) : Int)) ≠ -1 ∧ rd up (toOf l ((2 * m + 1 : Nat) : Int)) = rd up (fromOf l ((2 * m + 1 : Nat) : Int)) + 1) := fun hc => by
      have := hc.1
      rw [show ((2 * m + 1 : Nat) : Int) = 2 * (m : Int) + 1 by omega, r1] at this
      omega
    rw [if_neg c1, List.append_nil, show ((2 * m : Nat) : Int) = 2 * (m : Int) by omega, e0, e1]
    congr 1
    by_cases c : least ≤ rd (roomOf l (List.replicate l.length 0)) (2 * (m : Int))
    · have q : InR l (2 * (m : Int)) := ⟨by omega, by omega⟩
      have h1 := U.step _ q c (by rw [e0, U.src]; omega)
      rw [e0, e1, U.src] at h1
      have h2 : rd up t ≠ 0 := fun e => by
        have := U.zero t (by omega) (by omega) e
        omega
      rw [if_pos c, if_pos ⟨c, by rw [U.src]; omega, by rw [U.src]; omega⟩]
    · rw [if_neg c, if_neg (fun hc => c hc.1)]
end
theorem getD_set' {α : Type} {xs : List α} {i j : Nat} {x d : α} (h : i < xs.length) : (xs.set i x).getD j d = if i = j then x else xs.getD j d := by
  by_cases c : i = j
  · subst c
    rw [if_pos rfl, List.getD_eq_getElem?_getD, List.getElem?_set_self h]
    rfl
  · rw [if_neg c, List.getD_eq_getElem?_getD, List.getElem?_set_ne c, ← List.getD_eq_getElem?_getD]
theorem rows_fold {fr : Int → Int} {s : Int} : ∀ (L : List Int) (ts : List (List Int)), s.toNat < ts.length → (∀ r ∈ L, fr r = s) →
    (L.foldl (Go.Proofs.YtdiaedecnfbgdaaW.Mine.trAdd fr) ts).length = ts.length ∧ (L.foldl (Go.Proofs.YtdiaedecnfbgdaaW.Mine.trAdd fr) ts).getD s.toNat [] = ts.getD s.toNat [] ++ L
  | [], ts, _, _ => ⟨rfl, by simp⟩
  | r :: L, ts, hs, h => by
    have e := h r List.mem_cons_self
    have h2 := rows_fold (fr := fr) (s := s) L (Go.Proofs.YtdiaedecnfbgdaaW.Mine.trAdd fr ts r) (by unfold Go.Proofs.YtdiaedecnfbgdaaW.Mine.trAdd; rw [List.length_set]; exact hs) (fun q hq => h q (List.mem_cons_of_mem _ hq))
    rw [List.foldl_cons]
    refine ⟨by rw [h2.1]; unfold Go.Proofs.YtdiaedecnfbgdaaW.Mine.trAdd; rw [List.length_set], ?_⟩
    rw [h2.2]
    unfold Go.Proofs.YtdiaedecnfbgdaaW.Mine.trAdd
    rw [e, getD_set' hs, if_pos rfl, List.append_assoc]
    rfl
section
variable {s t least : Int} {l : List S30}
/-- What is left to be walked: at s the rest, perhaps behind a track that is full. -/
def Left (room : List Int) (s least : Int) (ts : List (List Int)) (rest : List Int) : Prop :=
  s.toNat < ts.length ∧ (ts.getD s.toNat [] = rest ∨ ∃ r, ts.getD s.toNat [] = r :: rest ∧ rd room r < least)
theorem plEnd_nil : plEnd l s [] = s := rfl
theorem plEnd_one (r : Int) : plEnd l s [r] = lvTo l r := rfl
theorem next_head {room : List Int} {r : Int} {rest : List Int} {ts : List (List Int)} (hst : s ≠ t) (hs : s.toNat < ts.length) (e : ts.getD s.toNat [] = r :: rest) (hr : least ≤ rd room r) (ht : lvTo l r = t) (K : Nat) :
    plNext l s t least room (K + 2) ts [] = some (true, ts, [r]) := by
  rw [plNext, plEnd_nil, if_neg hst, e]
  simp only [if_pos hr, List.length_nil, Nat.zero_le, if_true, List.nil_append]
  rw [plNext, plEnd_one, if_pos ht]
theorem next_pop {room : List Int} {r : Int} {rest : List Int} {ts : List (List Int)} (hst : s ≠ t) (e : ts.getD s.toNat [] = r :: rest) (hr : rd room r < least) (K : Nat) :
    plNext l s t least room (K + 1) ts [] = plNext l s t least room K (ts.set s.toNat rest) [] := by
  rw [plNext, plEnd_nil, if_neg hst, e]
  simp only [if_neg (show ¬ least ≤ rd room r by omega)]
theorem next_none {room : List Int} {ts : List (List Int)} (hst : s ≠ t) (e : ts.getD s.toNat [] = []) (K : Nat) :
    plNext l s t least room (K + 1) ts [] = some (false, ts, []) := by
  rw [plNext, plEnd_nil, if_neg hst, e]
  simp only [List.length_nil, if_true]
theorem next_left_cons {room : List Int} {r : Int} {rest : List Int} {ts : List (List Int)} (hst : s ≠ t) (h : Left room s least ts (r :: rest)) (hr : least ≤ rd room r) (ht : lvTo l r = t) :
    ∃ ts', (∀ K, 3 ≤ K → plNext l s t least room K ts [] = some (true, ts', [r])) ∧ s.toNat < ts'.length ∧ ts'.getD s.toNat [] = r :: rest := by
  obtain ⟨hs, h | ⟨q, h, hq⟩⟩ := h
  · refine ⟨ts, fun K hK => ?_, hs, h⟩
    obtain ⟨K, rfl⟩ : ∃ k, K = k + 3 := ⟨K - 3, by omega⟩
    exact next_head hst hs h hr ht _
  · have hs2 : s.toNat < (ts.set s.toNat (r :: rest)).length := by rw [List.length_set]; exact hs
    have e2 : (ts.set s.toNat (r :: rest)).getD s.toNat [] = r :: rest := by rw [getD_set' hs, if_pos rfl]
    refine ⟨_, fun K hK => ?_, hs2, e2⟩
    obtain ⟨K, rfl⟩ : ∃ k, K = k + 3 := ⟨K - 3, by omega⟩
    rw [next_pop hst h hq]
    exact next_head hst hs2 e2 hr ht _
theorem next_left_nil {room : List Int} {ts : List (List Int)} (hst : s ≠ t) (h : Left room s least ts []) (K : Nat) (hK : 2 ≤ K) :
    ∃ ts', plNext l s t least room K ts [] = some (false, ts', []) := by
  obtain ⟨K, rfl⟩ : ∃ k, K = k + 2 := ⟨K - 2, by omega⟩
  obtain ⟨hs, h | ⟨q, h, hq⟩⟩ := h
  · exact ⟨ts, next_none hst h _⟩
  · have e2 : (ts.set s.toNat []).getD s.toNat [] = [] := by rw [getD_set' hs, if_pos rfl]
    exact ⟨_, by rw [next_pop hst h hq]; exact next_none hst e2 _⟩
theorem push_one {room : List Int} {m : Nat} {j c : Int} (hlen : room.length = 2 * m) (hm : m ≤ 80) (h0 : 0 ≤ j) (h1 : j < (m : Int)) (hr : rd room (2 * j) = c) (hr1 : rd room (2 * j + 1) = 0) (hc : 0 ≤ c ∧ c < 100) (hl : 1 ≤ least) :
    plPush room least [2 * j] = some (c, (room.set (2 * j).toNat 0).set (2 * j + 1).toNat c, []) := by
  have ex := xor_even h0 (show j < 200 by omega)
  have w0 : wrap64 (c - c) = 0 := by rw [wrap_id (by omega) (by omega)]; omega
  have w1 : wrap64 (0 + c) = c := by rw [wrap_id (by omega) (by omega)]; omega
  have hg : rd (room.set (2 * j).toNat 0) (2 * j + 1) = 0 := by
    rw [rd_set (by omega) (by omega) (by omega), if_neg (by omega)]
    exact hr1
  have hg2 : rd ((room.set (2 * j).toNat 0).set (2 * j + 1).toNat c) (2 * j) = 0 := by
    rw [rd_set (by omega) (by rw [List.length_set]; omega) (by omega), if_neg (by omega), rd_set (by omega) (by omega) (by omega), if_pos rfl]
  have h3 : rd [2 * j] 0 = 2 * j := rfl
  have hmost : plMost room [2 * j] c = c := by
    simp only [plMost, hr, if_neg (Int.lt_irrefl c)]
  have hpour : plPour c [2 * j] room = (room.set (2 * j).toNat 0).set (2 * j + 1).toNat c := by
    simp only [plPour, hr, ex, w0, hg, w1]
  have hix : plIx ((room.set (2 * j).toNat 0).set (2 * j + 1).toNat c) least [2 * j] 0 = 0 := by
    simp only [plIx, hg2, if_pos (show (0 : Int) < least by omega)]
  unfold plPush
  rw [if_neg (by simp), if_pos (by simp only [List.all_cons, List.all_nil, Bool.and_true, ex]; exact decide_eq_true (by omega)), h3, hr, hmost, hpour, hix]
  rfl
theorem run_left (B : Bunch s t l) (hl : 1 ≤ least) : ∀ (rest room : List Int) (ts : List (List Int)) (ws : List S61), room.length = 2 * l.length → Left room s least ts rest → rest.Nodup → ws.length + rest.length ≤ 100 →
    (∀ r ∈ rest, ∃ j : Int, r = 2 * j ∧ 0 ≤ j ∧ j < (l.length : Int) ∧ least ≤ rd room r ∧ rd room r < 100 ∧ rd room (r + 1) = 0) →
    ∃ room', (∀ K f, 3 ≤ K → rest.length + 1 ≤ f → plRun l s t least K f room ts [] ws = some (room', ws ++ rest.map fun r => ⟨[r], rd room r⟩)) ∧
      (∀ r ∈ rest, rd room' (r + 1) = rd room r) ∧ ∀ q, 0 ≤ q → (∀ r ∈ rest, q ≠ r ∧ q ≠ r + 1) → rd room' q = rd room q
  | [], room, ts, ws, hlen, hL, _, _, _ => by
    have hst : s ≠ t := by have := B.st; omega
    refine ⟨room, fun K f hK hf => ?_, fun r hr => (by cases hr), fun _ _ _ => rfl⟩
    obtain ⟨f, rfl⟩ : ∃ k, f = k + 1 := ⟨f - 1, by have := hf; simp only [List.length_nil] at this; omega⟩
    obtain ⟨ts', e⟩ := next_left_nil (l := l) hst hL K (by omega)
    rw [plRun, e]
    simp
  | r :: rest, room, ts, ws, hlen, hL, hn, hw, hr => by
    have hst : s ≠ t := by have := B.st; omega
    have hbl := B.len
    obtain ⟨j, rfl, j0, j1, g1, g2, g3⟩ := hr r List.mem_cons_self
    have ht : lvTo l (2 * j) = t := (B.ends j0 j1).2
    have hp := push_one (least := least) hlen hbl j0 j1 rfl g3 ⟨by omega, g2⟩ hl
    generalize hc : rd room (2 * j) = c at *
    have hlen2 : ((room.set (2 * j).toNat 0).set (2 * j + 1).toNat c).length = 2 * l.length := by rw [List.length_set, List.length_set]; exact hlen
    have hold : ∀ q, 0 ≤ q → q ≠ 2 * j → q ≠ 2 * j + 1 → rd ((room.set (2 * j).toNat 0).set (2 * j + 1).toNat c) q = rd room q := fun q q0 q1 q2 => by
      rw [rd_set (by omega) (by rw [List.length_set]; omega) q0, if_neg (by omega), rd_set (by omega) (by omega) q0, if_neg (by omega)]
    have hnew0 : rd ((room.set (2 * j).toNat 0).set (2 * j + 1).toNat c) (2 * j) = 0 := by
      rw [rd_set (by omega) (by rw [List.length_set]; omega) (by omega), if_neg (by omega), rd_set (by omega) (by omega) (by omega), if_pos rfl]
    have hnew1 : rd ((room.set (2 * j).toNat 0).set (2 * j + 1).toNat c) (2 * j + 1) = c := by
      rw [rd_set (by omega) (by rw [List.length_set]; omega) (by omega), if_pos rfl]
    rw [List.nodup_cons] at hn
    have hrest : ∀ r ∈ rest, r ≠ 2 * j ∧ r ≠ 2 * j + 1 ∧ r + 1 ≠ 2 * j ∧ r + 1 ≠ 2 * j + 1 ∧ 0 ≤ r := fun r h => by
      obtain ⟨i, rfl, i0, _⟩ := hr r (List.mem_cons_of_mem _ h)
      have : 2 * i ≠ 2 * j := fun e => hn.1 (e ▸ h)
      omega
    generalize hR : (room.set (2 * j).toNat 0).set (2 * j + 1).toNat c = R at *
    have hrm : ∀ r ∈ rest, rd R r = rd room r ∧ rd R (r + 1) = rd room (r + 1) := fun r h => by
      obtain ⟨a, b, c, d, e⟩ := hrest r h
      exact ⟨hold r e a b, hold (r + 1) (by omega) c d⟩
    have hmap : (rest.map fun r => (⟨[r], rd R r⟩ : S61)) = rest.map fun r => ⟨[r], rd room r⟩ :=
      List.map_congr_left (fun r h => by rw [(hrm r h).1])
    have hL2 : ∀ ts' : List (List Int), s.toNat < ts'.length → ts'.getD s.toNat [] = 2 * j :: rest → Left R s least ts' rest := fun ts' a b => ⟨a, .inr ⟨_, b, by omega⟩⟩
    obtain ⟨ts0, hnext, t1, t2⟩ := next_left_cons (l := l) hst hL (by omega) ht
    simp only [List.length_cons] at hw
    obtain ⟨room', h1, h2, h3⟩ := run_left B hl rest R ts0 (ws ++ [⟨[2 * j], c⟩]) hlen2 (hL2 _ t1 t2) hn.2 (by simp; omega) (fun r h => by
      obtain ⟨i, e, i0, i1, k1, k2, k3⟩ := hr r (List.mem_cons_of_mem _ h)
      obtain ⟨a, b⟩ := hrm r h
      exact ⟨i, e, i0, i1, by omega, by omega, by omega⟩)
    refine ⟨room', fun K f hK hf => ?_, fun r h => ?_, fun q q0 hq => ?_⟩
    · obtain ⟨f, rfl⟩ : ∃ k, f = k + 1 := ⟨f - 1, by simp only [List.length_cons] at hf; omega⟩
      simp only [List.length_cons] at hf
      rw [plRun, hnext K hK]
      simp only [Option.bind_some, if_true]
      rw [if_pos (by omega), hp]
      simp only [Option.bind_some]
      rw [h1 K f hK (by omega), List.append_assoc, List.map_cons, hc, hmap]
      rfl
    · rcases List.mem_cons.1 h with rfl | h
      · rw [h3 _ (by omega) (fun r h => by obtain ⟨a, b, c, d, e⟩ := hrest r h; omega), hnew1, hc]
      · rw [h2 r h, (hrm r h).1]
    · obtain ⟨a, b⟩ := hq _ List.mem_cons_self
      rw [h3 q q0 (fun r h => hq r (List.mem_cons_of_mem _ h)), hold q q0 a b]
end
theorem out_rd {room : List Int} {m : Nat} {j : Int} (h0 : 0 ≤ j) (h1 : j < (m : Int)) : rd (plOut room m) j = rd room (2 * j + 1) := by
  obtain ⟨i, rfl⟩ : ∃ i : Nat, j = (i : Int) := ⟨j.toNat, by omega⟩
  unfold plOut
  show List.getD _ (i : Int).toNat 0 = _
  rw [Int.toNat_natCast, List.getD_eq_getElem?_getD, List.getElem?_map, List.getElem?_range (by omega)]
  rfl
theorem out_len (room : List Int) (m : Nat) : (plOut room m).length = m := by
  unfold plOut
  rw [List.length_map, List.length_range]
/-- What plain.Block tells of arcs beside one another. -/
theorem bunch_block {s t least : Int} {l : List S30} (B : Bunch s t l) (hl : 1 ≤ least) :
    ∃ out, Ev (fun k => plain_Block.f k 2 s t l (List.replicate l.length 0) least) (out, (gd (roomOf l (List.replicate l.length 0)) least l.length).map (fun r => ⟨[r], (rd_T30 l (r / 2)).f2⟩), 0) ∧
      out.length = l.length ∧ ∀ j : Int, 0 ≤ j → j < (l.length : Int) → rd out j = if least ≤ (rd_T30 l j).f2 then (rd_T30 l j).f2 else 0 := by
  have R := B.right
  have F : IsFlow 2 s t l (List.replicate l.length 0) := IsFlow.zeros B.good
  have hbl := B.len
  have hbs := B.st
  have hro := fun (j : Int) (h0 : 0 ≤ j) (h1 : j < (l.length : Int)) => B.room h0 h1
  have hlen : (roomOf l (List.replicate l.length 0)).length = 2 * l.length := roomOf_len F.1.len
  obtain ⟨up, hup, U⟩ := levels_ev R F hl
  have hld := leads_ev R F hup U
  rw [bunch_ld B hl U l.length (Nat.le_refl _)] at hld
  have hroom := room_ev R F
  generalize hrm : roomOf l (List.replicate l.length 0) = room at *
  have hgl := gd_len (room := room) (least := least) l.length
  have hgm : ∀ r ∈ gd room least l.length, ∃ j : Int, r = 2 * j ∧ 0 ≤ j ∧ j < (l.length : Int) ∧ least ≤ rd room r := fun r h => (gd_mem _).1 h
  have hsn : s.toNat < 3 := by omega
  have hrows := rows_fold (fr := lvFrom l) (s := s) (gd room least l.length) (List.replicate 3 []) (by rw [List.length_replicate]; exact hsn) (fun r h => by
    obtain ⟨j, rfl, j0, j1, _⟩ := hgm r h
    exact (B.ends j0 j1).1)
  have hL : Left room s least (plRows l (2 + 1 : Int).toNat (gd room least l.length)) (gd room least l.length) := by
    refine ⟨by unfold plRows; show _ < List.length (List.foldl _ (List.replicate 3 []) _); rw [hrows.1, List.length_replicate]; exact hsn, .inl ?_⟩
    unfold plRows
    show List.getD (List.foldl _ (List.replicate 3 []) _) _ _ = _
    rw [hrows.2, List.getD_eq_getElem?_getD, List.getElem?_replicate, if_pos hsn]
    rfl
  have hcap : ∀ j : Int, 0 ≤ j → j < (l.length : Int) → (rd_T30 l j).f2 < 100 := fun j h0 h1 => (B.arcs _ (rdT_mem h0 h1)).2.2.2
  obtain ⟨room', h1, h2, h3⟩ := run_left B hl (gd room least l.length) room _ [] hlen hL (gd_nodup _) (by simp; omega) (fun r h => by
    obtain ⟨j, rfl, j0, j1, j2⟩ := hgm r h
    obtain ⟨a, b⟩ := hro j j0 j1
    exact ⟨j, rfl, j0, j1, j2, by rw [a]; exact hcap j j0 j1, b⟩)
  refine ⟨plOut room' l.length, ?_, out_len _ _, fun j j0 j1 => ?_⟩
  · unfold plain_Block.f
    refine Ev.bind hld ?_
    simp only [if_true]
    refine Ev.bind hroom ?_
    have hfit : lvFit 2 s l room = true := by
      unfold lvFit
      rw [decide_eq_true (show (1 : Int) ≤ 2 ∧ (2 : Int) ≤ 1000000 ∧ 0 ≤ s ∧ s ≤ 2 ∧ l.length ≤ 2000 ∧ room.length = 2 * l.length by omega), Bool.true_and]
      refine List.all_eq_true.2 (fun a ha => decide_eq_true ?_)
      have := B.good a ha
      unfold GoodArc at this
      omega
    have hok : (lvFit 2 s l room && (decide ((gd room least l.length).length ≤ 1000000 ∧ (List.replicate l.length (0 : Int)).length ≤ l.length) && (gd room least l.length).all fun r => decide (0 ≤ r ∧ r < (room.length : Int)))) = true := by
      rw [hfit, decide_eq_true (show (gd room least l.length).length ≤ 1000000 ∧ (List.replicate l.length (0 : Int)).length ≤ l.length by rw [List.length_replicate]; omega), Bool.true_and, Bool.true_and]
      refine List.all_eq_true.2 (fun r h => decide_eq_true ?_)
      obtain ⟨j, rfl, j0, j1, _⟩ := hgm r h
      omega
    have hmap : ((gd room least l.length).map fun r => (⟨[r], rd room r⟩ : S61)) = (gd room least l.length).map fun r => ⟨[r], (rd_T30 l (r / 2)).f2⟩ :=
      List.map_congr_left (fun r h => by
        obtain ⟨j, rfl, j0, j1, _⟩ := hgm r h
        rw [(hro j j0 j1).1, show 2 * j / 2 = j by omega])
    refine ⟨(gd room least l.length).length + 4, fun k hk => ?_⟩
    show (if _ = true then _ else none) = _
    rw [if_pos hok, h1 k k (by omega) (by omega), hmap, List.length_replicate]
    rfl
  · rw [out_rd j0 j1]
    by_cases c : least ≤ (rd_T30 l j).f2
    · rw [if_pos c, h2 (2 * j) ((gd_mem _).2 ⟨j, rfl, j0, j1, by rw [(hro j j0 j1).1]; exact c⟩), (hro j j0 j1).1]
    · rw [if_neg c, h3 _ (by omega) (fun r h => by
        obtain ⟨i, rfl, i0, i1, i2⟩ := hgm r h
        rw [(hro i i0 i1).1] at i2
        have : i ≠ j := fun e => c (e ▸ i2)
        omega), (hro j j0 j1).2]
theorem shown8_ev : Ev (fun k => racewaylaw8_shown.f k) true := by
  have B : Bunch 1 2 [(⟨1, 2, 5⟩ : S30), ⟨1, 2, 3⟩] := ⟨fun a ha => by
    rcases List.mem_cons.1 ha with rfl | ha
    · decide
    · obtain rfl := List.mem_singleton.1 ha
      decide, .inl ⟨rfl, rfl⟩, by decide⟩
  obtain ⟨out, h1, h2, h3⟩ := bunch_block B (least := 1) (by decide)
  have g0 := h3 0 (by decide) (by decide)
  have g1 := h3 1 (by decide) (by decide)
  have e0 : rd out 0 = 5 := by rw [g0]; rfl
  have e1 : rd out 1 = 3 := by rw [g1]; rfl
  have hl : out.length = 2 := h2
  have hg : gd (roomOf [(⟨1, 2, 5⟩ : S30), ⟨1, 2, 3⟩] (List.replicate 2 0)) 1 2 = [0, 2] := by decide +kernel
  have h1 : Ev (fun k => plain_Block.f k 2 1 2 [(⟨1, 2, 5⟩ : S30), ⟨1, 2, 3⟩] [0, 0] 1) (out, ((gd (roomOf [(⟨1, 2, 5⟩ : S30), ⟨1, 2, 3⟩] (List.replicate 2 0)) 1 2).map (fun r => ⟨[r], (rd_T30 [(⟨1, 2, 5⟩ : S30), ⟨1, 2, 3⟩] (r / 2)).f2⟩)), 0) := h1
  rw [hg] at h1
  unfold racewaylaw8_shown.f
  refine Ev.bind h1 ?_
  refine Ev.congr (fun k => ?_) (Ev.now true)
  simp only [hl, e0, e1, if_true]
  rfl
theorem samei_loop {a b : List Int} (hl : a.length = b.length) (hm : a.length ≤ 1000000) (d : Nat) : ∀ i : Nat, i + d = a.length → Ev (fun k => racewaylaw8_same.l0 k a b (i : Int)) (decide (a.drop i = b.drop i)) := by
  induction d with
  | zero =>
    intro i hi
    refine Ev.step (f := fun _ => some (decide (a.drop i = b.drop i))) (fun k => ?_) (Ev.now _)
    simp only [racewaylaw8_same.l0]
    rw [if_neg (by omega), List.drop_of_length_le (by omega), List.drop_of_length_le (by omega)]
    simp
  | succ d ih =>
    intro i hi
    have hia : i < a.length := by omega
    have hib : i < b.length := by omega
    by_cases c : a[i] = b[i]
    · have e : decide (a.drop i = b.drop i) = decide (a.drop (i + 1) = b.drop (i + 1)) := by
        have e3 : (a.drop i = b.drop i) ↔ (a.drop (i + 1) = b.drop (i + 1)) := by
          rw [List.drop_eq_getElem_cons hia, List.drop_eq_getElem_cons hib, c]
          exact ⟨fun h => (List.cons.inj h).2, fun h => by rw [h]⟩
        exact decide_eq_decide.2 e3
      rw [e]
      refine Ev.step (fun k => ?_) (ih (i + 1) (by omega))
      simp only [racewaylaw8_same.l0]
      rw [if_pos (by omega), if_pos (by omega), if_pos (by omega), rd_get hia, rd_get hib, if_pos c, wrap_id (by omega) (by omega)]
      rfl
    · have e : decide (a.drop i = b.drop i) = false := by
        refine decide_eq_false (fun h => c ?_)
        rw [List.drop_eq_getElem_cons hia, List.drop_eq_getElem_cons hib] at h
        exact (List.cons.inj h).1
      rw [e]
      refine Ev.step (f := fun _ => some false) (fun k => ?_) (Ev.now _)
      simp only [racewaylaw8_same.l0]
      rw [if_pos (by omega), if_pos (by omega), if_pos (by omega), rd_get hia, rd_get hib, if_neg c]
theorem samei_ev (a b : List Int) (hm : a.length ≤ 1000000) : Ev (fun k => racewaylaw8_same.f k a b) (decide (a = b)) := by
  by_cases hl : a.length = b.length
  · have := samei_loop hl hm a.length 0 (by omega)
    rw [List.drop_zero, List.drop_zero] at this
    refine Ev.congr (fun k => ?_) this
    unfold racewaylaw8_same.f
    rw [if_pos (by omega)]
    rfl
  · have e : decide (a = b) = false := decide_eq_false (fun h => hl (by rw [h]))
    rw [e]
    refine Ev.congr (fun k => ?_) (Ev.now _)
    unfold racewaylaw8_same.f
    rw [if_neg (by omega)]
end Go.Proofs.Ytdiaedecnfbgdaa.Pure
