/- Plain lists and numbers, for the law DecompChain: no program and no memory. -/
-- slimm
import Derived.Test.YtnjdjnoncoeffaaPDecompChainx0
import Derived.Test.YtnjdjnoncoeffaaPDecompChainx1
import Derived.Test.YtnjdjnoncoeffaaPDecompChainx3
import Derived.Test.YtnjdjnoncoeffaaPDecompChainx4
import Derived.Test.YtnjdjnoncoeffaaPDecompChainx5
import Derived.Test.YtnjdjnoncoeffaaPDecompChainx6
import Derived.Test.YtnjdjnoncoeffaaPDecompChainx19
import Derived.Test.YtnjdjnoncoeffaaPDecompChainx20
set_option linter.unusedVariables false
namespace Go.Proofs.Ytnjdjnoncoeffaa.Pure
open Go.RowKit Go.Proofs.Ytnjdjnoncoeffaa.PDecompChain Go.Proofs.YtnjdjnoncoeffaaW.PrintWords Go.Proofs.YtnjdjnoncoeffaaW.PrintLast
theorem wrap_id {x : Int} (h0 : -9223372036854775808 ≤ x) (h1 : x ≤ 9223372036854775807) : wrap64 x = x := by unfold wrap64; omega
def GoodArc (n : Int) (a : S30) : Prop := 1 ≤ a.f0 ∧ a.f0 ≤ n ∧ 1 ≤ a.f1 ∧ a.f1 ≤ n ∧ 0 ≤ a.f2
def sumCap : List S30 → Int
 | [] => 0
 | a :: t => a.f2 + sumCap t
theorem sumCap_nonneg {n : Int} {l : List S30} (h : ∀ a ∈ l, GoodArc n a) : 0 ≤ sumCap l := by
 induction l with
 | nil => exact Int.le_refl 0
 | cons a t ih =>
  have h1 := ih (fun x hx => h x (List.mem_cons_of_mem _ hx))
  have h2 := (h a List.mem_cons_self).2.2.2.2
  simp only [sumCap]; omega
theorem chk_app {n : Int} : ∀ {l m : List S30} {s : Int}, (∀ a ∈ l, GoodArc n a) → 0 ≤ s → s + sumCap l ≤ 4611686018427387903 → chkArcs n (l ++ m) s = chkArcs n m (s + sumCap l)
 | [], m, s, _, _, _ => by simp [sumCap]
 | a :: t, m, s, h, hs, hM => by
  obtain ⟨g0, g1, g2, g3, g4⟩ := h a List.mem_cons_self
  have ht : ∀ x ∈ t, GoodArc n x := fun x hx => h x (List.mem_cons_of_mem _ hx)
  have hn := sumCap_nonneg ht
  simp only [sumCap] at hM
  simp only [List.cons_append, chkArcs]
  rw [if_pos ⟨by omega, by omega⟩, if_pos ⟨g0, g1, g2, g3⟩, if_neg (by omega), if_neg (by omega), chk_app ht (by omega) (by omega)]
  simp only [sumCap]
  rw [Int.add_assoc]
theorem chk_ok {n : Int} {l : List S30} {s : Int} (h : ∀ a ∈ l, GoodArc n a) (hs : 0 ≤ s) (hM : s + sumCap l ≤ 4611686018427387903) : chkArcs n l s = some 0 := by
 have := chk_app (m := []) h hs hM
 rw [List.append_nil] at this
 rw [this, chkArcs]
structure Right (n s t : Int) (l : List S30) : Prop where
 n2 : 2 ≤ n
 n500 : n ≤ 500
 s1 : 1 ≤ s
 sn : s ≤ n
 t1 : 1 ≤ t
 tn : t ≤ n
 ne : s ≠ t
 len : l.length ≤ 2000
 arcs : ∀ a ∈ l, GoodArc n a
 sum : sumCap l ≤ 4611686018427387903
theorem Right.check {n s t : Int} {l : List S30} (h : Right n s t l) : net_Check.f n s t l = some 0 := by
 unfold net_Check.f
 have h1 := h.n2
 have h2 := h.n500
 have h3 := h.s1
 have h4 := h.sn
 have h5 := h.t1
 have h6 := h.tn
 have h8 := h.len
 rw [if_neg (by omega), if_neg (fun hc => hc ⟨h3, h4, h5, h6⟩), if_neg h.ne, if_neg (by omega)]
 exact chk_ok h.arcs (Int.le_refl 0) (by have := h.sum; omega)
def pk (c n : Int) : Int := if c < 0 then Int.tmod (-(c + 1)) n else Int.tmod c n
theorem pk_range {c n : Int} (hn : 0 < n) : 0 ≤ pk c n ∧ pk c n < n := by
 unfold pk
 split
 ·exact ⟨Int.tmod_nonneg _ (by omega), Int.tmod_lt_of_pos _ hn⟩
 ·exact ⟨Int.tmod_nonneg _ (by omega), Int.tmod_lt_of_pos _ hn⟩
theorem wf_bounds {c : Int} (h : (Lit.int .i64 c).wf = true) : -9223372036854775808 ≤ c ∧ c ≤ 9223372036854775807 := by
 simp [Lit.wf] at h
 obtain ⟨h1, h2⟩ := h
 have e : IntKind.i64.min = -9223372036854775808 := by decide
 rw [e] at h1
 exact ⟨h1, h2⟩
theorem pick_eq {c n : Int} (h0 : -9223372036854775808 ≤ c) (h1 : c ≤ 9223372036854775807) (hn : 0 < n) : racewaylaw15_pick.f c n = some (pk c n) := by
 unfold racewaylaw15_pick.f pk
 by_cases hc : c < 0
 ·have e1 : wrap64 (c + 1) = c + 1 := by unfold wrap64; omega
  have e2 : wrap64 (-(c + 1)) = -(c + 1) := by unfold wrap64; omega
  rw [if_pos hc, if_pos hc, if_neg (by omega), e1, e2]
 ·rw [if_neg hc, if_neg hc, if_neg (by omega)]
def Within : List S30 → List Int → Prop
 | [], [] => True
 | a :: l, x :: f => 0 ≤ x ∧ x ≤ a.f2 ∧ Within l f
 | _, _ => False
def exc : List S30 → List Int → Int → Int
 | a :: l, x :: f, v => (if a.f1 = v then x else 0) - (if a.f0 = v then x else 0) + exc l f v
 | _, _, _ => 0
theorem exc_nil (f : List Int) (v : Int) : exc [] f v = 0 := by cases f <;> rfl
def sumL : List Int → Int
 | [] => 0
 | x :: f => x + sumL f
theorem Within.len : ∀ {l : List S30} {f : List Int}, Within l f → f.length = l.length
 | [], [], _ => rfl
 | _ :: _, _ :: _, h => by simp [Within.len h.2.2]
 | [], _ :: _, h => h.elim
 | _ :: _, [], h => h.elim
theorem Within.get : ∀ {l : List S30} {f : List Int}, Within l f → ∀ i (h : i < l.length) (h' : i < f.length), 0 ≤ f[i] ∧ f[i] ≤ (l[i]).f2
 | _ :: _, _ :: _, h, 0, _, _ => ⟨h.1, h.2.1⟩
 | _ :: l, _ :: f, h, i + 1, h1, h2 => by
  simp only [List.getElem_cons_succ]
  exact Within.get h.2.2 i (by simpa using h1) (by simpa using h2)
 | [], [], _, i, h1, _ => absurd h1 (by simp)
theorem Within.of : ∀ {l : List S30} {f : List Int}, f.length = l.length → (∀ i (h : i < l.length) (h' : i < f.length), 0 ≤ f[i] ∧ f[i] ≤ (l[i]).f2) → Within l f
 | [], [], _, _ => trivial
 | a :: l, x :: f, hl, h => by
  have h0 := h 0 (by simp) (by simp)
  exact ⟨h0.1, h0.2, Within.of (by simpa using hl) (fun i h1 h2 => by have := h (i + 1) (by simpa using h1) (by simpa using h2); simpa using this)⟩
 | [], _ :: _, hl, _ => absurd hl (by simp)
 | _ :: _, [], hl, _ => absurd hl (by simp)
theorem rd_get {f : List Int} {i : Nat} (h : i < f.length) : rd f (i : Int) = f[i] := by simp [rd, h]
theorem rdT_get {l : List S30} {i : Nat} (h : i < l.length) : rd_T30 l (i : Int) = l[i] := by simp [rd_T30, h]
theorem Within.sum : ∀ {l : List S30} {f : List Int}, Within l f → 0 ≤ sumL f ∧ sumL f ≤ sumCap l
 | [], [], _ => ⟨Int.le_refl _, Int.le_refl _⟩
 | a :: l, x :: f, h => by
  have := Within.sum h.2.2
  have h1 := h.1
  have h2 := h.2.1
  simp only [sumL, sumCap]; omega
 | [], _ :: _, h => h.elim
 | _ :: _, [], h => h.elim
theorem Within.nonneg : ∀ {l : List S30} {f : List Int}, Within l f → ∀ x ∈ f, 0 ≤ x
 | [], [], _, x, hx => by cases hx
 | a :: l, y :: f, h, x, hx => by
  rcases List.mem_cons.1 hx with rfl | hx
  ·exact h.1
  ·exact Within.nonneg h.2.2 x hx
 | [], _ :: _, h, _, _ => h.elim
 | _ :: _, [], h, _, _ => h.elim
theorem Within.drop : ∀ {l : List S30} {f : List Int}, Within l f → ∀ i, Within (l.drop i) (f.drop i)
 | l, f, h, 0 => by simpa using h
 | [], [], _, _ + 1 => trivial
 | _ :: _, _ :: _, h, i + 1 => by simpa using Within.drop h.2.2 i
 | [], _ :: _, h, _ + 1 => h.elim
 | _ :: _, [], h, _ + 1 => h.elim
theorem Within.zeros : ∀ {l : List S30}, (∀ a ∈ l, 0 ≤ a.f2) → Within l (List.replicate l.length 0)
 | [], _ => trivial
 | a :: l, h => ⟨Int.le_refl _, h a List.mem_cons_self, Within.zeros (fun x hx => h x (List.mem_cons_of_mem _ hx))⟩
theorem exc_zeros : ∀ (l : List S30) (n : Nat) (v : Int), exc l (List.replicate n 0) v = 0
 | [], _, _ => by simp [exc]
 | _ :: _, 0, _ => by simp [exc]
 | a :: l, n + 1, v => by
  simp only [List.replicate_succ, exc, exc_zeros l n v]
  split <;> split <;> rfl
theorem Within.set : ∀ {l : List S30} {f : List Int}, Within l f → ∀ (i : Nat) (x : Int), 0 ≤ x → (∀ h : i < l.length, x ≤ (l[i]).f2) → Within l (f.set i x)
 | [], [], _, _, _, _, _ => by simp [Within]
 | a :: l, y :: f, h, 0, x, h0, hx => ⟨h0, hx (by simp), h.2.2⟩
 | a :: l, y :: f, h, i + 1, x, h0, hx => ⟨h.1, h.2.1, Within.set h.2.2 i x h0 (fun h' => by have := hx (by simpa using h'); simpa using this)⟩
 | [], _ :: _, h, _, _, _, _ => h.elim
 | _ :: _, [], h, _, _, _, _ => h.elim
structure IsFlow (n s t : Int) (l : List S30) (f : List Int) : Prop where
 within : Within l f
 cons : ∀ v, 1 ≤ v → v ≤ n → v ≠ s → v ≠ t → exc l f v = 0
theorem IsFlow.zeros {n s t : Int} {l : List S30} (h : ∀ a ∈ l, GoodArc n a) : IsFlow n s t l (List.replicate l.length 0) :=
 ⟨Within.zeros (fun a ha => (h a ha).2.2.2.2), fun v _ _ _ _ => exc_zeros _ _ _⟩
theorem rd_set {xs : List Int} {j u x : Int} (h0 : 0 ≤ j) (h1 : j < (xs.length : Int)) (hu : 0 ≤ u) : rd (xs.set j.toNat x) u = if j = u then x else rd xs u := by
 unfold rd
 rw [List.getD_eq_getElem?_getD, List.getD_eq_getElem?_getD, List.getElem?_set]
 by_cases e : j = u
 ·subst e
  rw [if_pos rfl, if_pos (by omega), if_pos rfl]; rfl
 ·rw [if_neg (by omega), if_neg e]
theorem sumL_drop {f : List Int} {i : Nat} (h : i < f.length) : sumL (f.drop i) = f[i] + sumL (f.drop (i + 1)) := by
 rw [List.drop_eq_getElem_cons h]; rfl
theorem sumL_nonneg : ∀ {g : List Int}, (∀ x ∈ g, 0 ≤ x) → 0 ≤ sumL g
 | [], _ => Int.le_refl _
 | y :: g, h => by
  have h1 := sumL_nonneg (g := g) (fun x hx => h x (List.mem_cons_of_mem _ hx))
  have h2 := h y List.mem_cons_self
  simp only [sumL]; omega
theorem exc_loop {n : Int} {l : List S30} {f : List Int} (hg : ∀ a ∈ l, GoodArc n a) (hf : ∀ x ∈ f, 0 ≤ x) (hlen : f.length = l.length) (hS : sumL f ≤ 4611686018427387903) (hl : l.length ≤ 2000) (d : Nat) :
  ∀ (i : Nat) (out : List Int), i + d = l.length → (out.length : Int) = n + 1 → (∀ v, 0 ≤ v → v ≤ n → -(sumL f - sumL (f.drop i)) ≤ rd out v ∧ rd out v ≤ sumL f - sumL (f.drop i)) →
   ∃ out', Ev (fun k => flow_excesses.l0 k f out l (l.length : Int) (i : Int)) out' ∧ (out'.length : Int) = n + 1 ∧ ∀ v, 0 ≤ v → v ≤ n → rd out' v = rd out v + exc (l.drop i) (f.drop i) v := by
 induction d with
 | zero =>
  intro i out hi ho _
  refine ⟨out, Ev.step (f := fun _ => some out) (fun k => ?_) (Ev.now _), ho, fun v _ _ => ?_⟩
  ·simp only [flow_excesses.l0]
   rw [if_neg (by omega)]
  ·rw [List.drop_of_length_le (show l.length ≤ i by omega), exc_nil]; omega
 | succ d ih =>
  intro i out hi ho hb
  have hil : i < l.length := by omega
  have hif : i < f.length := by omega
  obtain ⟨g0, g1, g2, g3, _⟩ := hg l[i] (List.getElem_mem hil)
  have hx0 := hf f[i] (List.getElem_mem hif)
  have hsd := sumL_drop hif
  have hsn := sumL_nonneg (g := f.drop (i + 1)) (fun x hx => hf x (List.mem_of_mem_drop hx))
  have b0 := hb (l[i]).f0 (by omega) g1
  have e1 : wrap64 (rd out (l[i]).f0 - f[i]) = rd out (l[i]).f0 - f[i] := wrap_id (by omega) (by omega)
  have hr1 : ∀ u, 0 ≤ u → rd (out.set ((l[i]).f0).toNat (rd out (l[i]).f0 - f[i])) u = if (l[i]).f0 = u then rd out (l[i]).f0 - f[i] else rd out u := fun u hu => rd_set (by omega) (by omega) hu
  have b1 := hb (l[i]).f1 (by omega) g3
  have e2 : wrap64 (rd (out.set ((l[i]).f0).toNat (rd out (l[i]).f0 - f[i])) (l[i]).f1 + f[i]) = rd (out.set ((l[i]).f0).toNat (rd out (l[i]).f0 - f[i])) (l[i]).f1 + f[i] := by
   have := hr1 (l[i]).f1 (by omega)
   rw [this]
   split <;> exact wrap_id (by omega) (by omega)
  have hr2 : ∀ u, 0 ≤ u → rd ((out.set ((l[i]).f0).toNat (rd out (l[i]).f0 - f[i])).set ((l[i]).f1).toNat (rd (out.set ((l[i]).f0).toNat (rd out (l[i]).f0 - f[i])) (l[i]).f1 + f[i])) u = rd out u + ((if (l[i]).f1 = u then f[i] else 0) - (if (l[i]).f0 = u then f[i] else 0)) := by
   intro u hu
   rw [rd_set (by omega) (by rw [List.length_set]; omega) hu, hr1 (l[i]).f1 (by omega), hr1 u hu]
   by_cases c1 : (l[i]).f1 = u
   ·by_cases c0 : (l[i]).f0 = u
    ·rw [if_pos c1, if_pos (by omega), if_pos c1, if_pos c0, c0]; omega
    ·rw [if_pos c1, if_neg (by omega), if_pos c1, if_neg c0, c1]; omega
   ·by_cases c0 : (l[i]).f0 = u
    ·rw [if_neg c1, if_pos c0, if_neg c1, if_pos c0, c0]; omega
    ·rw [if_neg c1, if_neg c0, if_neg c1, if_neg c0]; omega
  obtain ⟨Y, hYd⟩ : ∃ Y, ((out.set ((l[i]).f0).toNat (rd out (l[i]).f0 - f[i])).set ((l[i]).f1).toNat (rd (out.set ((l[i]).f0).toNat (rd out (l[i]).f0 - f[i])) (l[i]).f1 + f[i])) = Y := ⟨_, rfl⟩
  rw [hYd] at hr2
  obtain ⟨out', h1, h2, h3⟩ := ih (i + 1) Y (by omega) (by rw [← hYd, List.length_set, List.length_set]; exact ho) (fun v hv0 hv1 => by
   have hbv := hb v hv0 hv1
   have e := hr2 v hv0
   rw [e]
   by_cases c1 : (l[i]).f1 = v
   ·by_cases c0 : (l[i]).f0 = v
    ·rw [if_pos c1, if_pos c0]; omega
    ·rw [if_pos c1, if_neg c0]; omega
   ·by_cases c0 : (l[i]).f0 = v
    ·rw [if_neg c1, if_pos c0]; omega
    ·rw [if_neg c1, if_neg c0]; omega)
  refine ⟨out', Ev.step (fun k => ?_) h1, h2, fun v hv0 hv1 => ?_⟩
  ·simp only [flow_excesses.l0]
   rw [if_pos (by omega), if_pos (by omega), if_pos (by omega), rdT_get hil, rd_get hif, if_pos (by omega), if_pos (by omega), if_pos (by omega), e1]
   simp only [Option.bind_some]
   rw [if_pos (by omega), if_pos (by omega), e2, wrap_id (by omega) (by omega), hYd]
   rfl
  ·rw [h3 v hv0 hv1, hr2 v hv0, List.drop_eq_getElem_cons hil, List.drop_eq_getElem_cons hif]
   simp only [exc]; omega
theorem rd_replicate (m : Nat) (v : Int) : rd (List.replicate m 0) v = 0 := by
 unfold rd
 rw [List.getD_eq_getElem?_getD, List.getElem?_replicate]
 split <;> rfl
theorem excesses_ev {n s t : Int} {l : List S30} {f : List Int} (R : Right n s t l) (W : Within l f) :
  ∃ out, Ev (fun k => flow_excesses.f k n s t l f) out ∧ (out.length : Int) = n + 1 ∧ ∀ v, 0 ≤ v → v ≤ n → rd out v = exc l f v := by
 have h1 := R.n2
 have h2 := R.n500
 have hs := W.sum
 have hR := R.sum
 obtain ⟨out, ho, hl, hv⟩ := exc_loop R.arcs W.nonneg W.len (by omega) R.len l.length 0 (List.replicate (n + 1).toNat 0) (by omega) (by simp; omega) (fun v _ _ => by rw [rd_replicate, List.drop_zero]; omega)
 refine ⟨out, Ev.congr (fun k => ?_) ho, hl, fun v h0 h3 => ?_⟩
 ·unfold flow_excesses.f
  rw [wrap_id (x := n + 1) (by omega) (by omega), if_pos (by omega), if_pos (by omega)]
  rfl
 ·rw [hv v h0 h3, rd_replicate, List.drop_zero, List.drop_zero]; omega
theorem within_loop {n s t : Int} {l : List S30} {f : List Int} (W : Within l f) (hl : l.length ≤ 2000) (d : Nat) : ∀ i : Nat, i + d = f.length → Ev (fun k => flow_within.l0 k f (f.length : Int) (i : Int) n s t l) 0 := by
 have hlen := W.len
 induction d with
 | zero =>
  intro i hi
  refine Ev.step (f := fun _ => some 0) (fun k => ?_) (Ev.now _)
  simp only [flow_within.l0]
  rw [if_neg (by omega)]
 | succ d ih =>
  intro i hi
  have hif : i < f.length := by omega
  have hil : i < l.length := by omega
  have hb := W.get i hil hif
  refine Ev.step (fun k => ?_) (ih (i + 1) (by omega))
  simp only [flow_within.l0]
  rw [if_pos (by omega), if_pos (by omega), if_pos (by omega), rd_get hif, rdT_get hil, if_neg (by omega), if_pos (by omega), if_neg (by omega), wrap_id (by omega) (by omega)]
  rfl
theorem within_yes {n s t : Int} {l : List S30} {f : List Int} (R : Right n s t l) (W : Within l f) : Ev (fun k => flow_within.f k n s t l f) 0 := by
 have hlen := W.len
 refine Ev.congr (fun k => ?_) (within_loop (n := n) (s := s) (t := t) W R.len f.length 0 (by omega))
 unfold flow_within.f
 rw [R.check]
 simp only [Option.bind_some, if_true]
 rw [if_pos (by omega)]
 rfl
theorem check_loop {n s t : Int} {l : List S30} {x : List Int} (hn : n ≤ 500) (hx : (x.length : Int) = n + 1) (d : Nat) : ∀ i : Nat, (i : Int) + d = n → (∀ v, (i : Int) < v → v ≤ n → v ≠ s → v ≠ t → rd x v = 0) →
  Ev (fun k => flow_Check.l0 k x n (i : Int) n s t l) 0 := by
 induction d with
 | zero =>
  intro i hi _
  refine Ev.step (f := fun _ => some 0) (fun k => ?_) (Ev.now _)
  simp only [flow_Check.l0]
  rw [if_neg (by omega)]
 | succ d ih =>
  intro i hi hz
  refine Ev.step (fun k => ?_) (ih (i + 1) (by omega) (fun v h1 h2 h3 h4 => hz v (by omega) h2 h3 h4))
  simp only [flow_Check.l0]
  rw [if_pos (by omega), wrap_id (by omega) (by omega)]
  by_cases c1 : (i : Int) + 1 = s
  ·rw [if_pos c1]; rfl
  ·by_cases c2 : (i : Int) + 1 = t
   ·rw [if_neg c1, if_pos c2]; rfl
   ·rw [if_neg c1, if_neg c2, if_pos (by omega), if_pos (by omega), if_pos (hz _ (by omega) (by omega) c1 c2)]; rfl
theorem check_flow {n s t : Int} {l : List S30} {f : List Int} (R : Right n s t l) (F : IsFlow n s t l f) : Ev (fun k => flow_Check.f k n s t l f) 0 := by
 obtain ⟨x, h1, h2, h3⟩ := excesses_ev R F.within
 have hn := R.n2
 unfold flow_Check.f
 refine Ev.bind (within_yes R F.within) ?_
 simp only [if_true]
 refine Ev.bind h1 ?_
 exact check_loop R.n500 h2 n.toNat 0 (by omega) (fun v hv1 hv2 hv3 hv4 => by rw [h3 v (by omega) hv2]; exact F.cons v (by omega) hv2 hv3 hv4)
theorem value_flow {n s t : Int} {l : List S30} {f : List Int} (R : Right n s t l) (F : IsFlow n s t l f) : Ev (fun k => flow_Value.f k n s t l f) (exc l f t, 0) := by
 obtain ⟨x, h1, h2, h3⟩ := excesses_ev R F.within
 have ht1 := R.t1
 have htn := R.tn
 unfold flow_Value.f
 refine Ev.bind (check_flow R F) ?_
 simp only [if_true]
 refine Ev.bind h1 ?_
 refine Ev.congr (fun k => ?_) (Ev.now (exc l f t, 0))
 rw [if_pos (by omega), if_pos (by omega), h3 t (by omega) htn]
theorem tracks_at2 {fr : Int → Int} {m : Nat} : ∀ (N v : Nat), v < m → ∃ x, (Go.Proofs.YtnjdjnoncoeffaaW.Mine.trAll fr m N)[v]? = some x ∧ ∀ r, (0 ≤ r ∧ r < (N : Int) ∧ (fr r).toNat = v) ↔ r ∈ x
 | 0, v, h => ⟨[], by simp [Go.Proofs.YtnjdjnoncoeffaaW.Mine.trAll, h], fun r => ⟨fun hr => by omega, fun hr => by cases hr⟩⟩
 | N + 1, v, h => by
  obtain ⟨x, hx, hr⟩ := tracks_at2 (fr := fr) (m := m) N v h
  have hl := Go.Proofs.YtnjdjnoncoeffaaW.Mine.trAll_length fr m N
  simp only [Go.Proofs.YtnjdjnoncoeffaaW.Mine.trAll, Go.Proofs.YtnjdjnoncoeffaaW.Mine.trAdd]
  by_cases c : (fr (N : Int)).toNat = v
  ·rw [c]
   have e : (Go.Proofs.YtnjdjnoncoeffaaW.Mine.trAll fr m N).getD v [] = x := by rw [List.getD_eq_getElem?_getD, hx]; rfl
   refine ⟨x ++ [(N : Int)], by rw [List.getElem?_set_self (by omega), e], fun r => ?_⟩
   rw [List.mem_append, List.mem_singleton, ← hr r]
   constructor
   ·intro h1
    by_cases c2 : r = (N : Int)
    ·exact .inr c2
    ·exact .inl ⟨h1.1, by omega, h1.2.2⟩
   ·rintro (h1 | rfl)
    ·exact ⟨h1.1, by omega, h1.2.2⟩
    ·exact ⟨by omega, by omega, c⟩
  ·refine ⟨x, by rw [List.getElem?_set_ne c]; exact hx, fun r => ?_⟩
   rw [← hr r]
   constructor
   ·intro h1
    refine ⟨h1.1, ?_, h1.2.2⟩
    by_cases c2 : r = (N : Int)
    ·subst c2; exact absurd h1.2.2 c
    ·omega
   ·intro h1
    exact ⟨h1.1, by omega, h1.2.2⟩
theorem shown15_ev : Ev (fun k => racewaylaw15_shown.f k) true := Ev.of (fun k => racewaylaw15_shown.mono k) (k := 30) (by decide +kernel)
end Go.Proofs.Ytnjdjnoncoeffaa.Pure
