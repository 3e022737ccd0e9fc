/- Plain lists and numbers, for the law DecompOrder: no program and no memory. -/
-- slimm
import Derived.Test.YtnjdjnoncoeffaaPDecompOrderx0
import Derived.Test.YtnjdjnoncoeffaaPDecompOrderx1
import Derived.Test.YtnjdjnoncoeffaaPDecompOrderx3
import Derived.Test.YtnjdjnoncoeffaaPDecompOrderx4
import Derived.Test.YtnjdjnoncoeffaaPDecompOrderx5
import Derived.Test.YtnjdjnoncoeffaaPDecompOrderx6
import Derived.Test.YtnjdjnoncoeffaaPDecompOrderx9
import Derived.Test.YtnjdjnoncoeffaaPDecompOrderx13
import Derived.Test.YtnjdjnoncoeffaaPDecompOrderx16
import Derived.Test.YtnjdjnoncoeffaaPDecompOrderx17
import Derived.Test.YtnjdjnoncoeffaaPDecompOrderx18
import Derived.Test.YtnjdjnoncoeffaaPDecompOrderx19
import Derived.Test.YtnjdjnoncoeffaaPDecompOrderx20
import Derived.Test.YtnjdjnoncoeffaaPDecompOrderx21
import Derived.Test.YtnjdjnoncoeffaaPDecompOrderx22
import Derived.Test.YtnjdjnoncoeffaaPDecompOrderx23
import Derived.Test.YtnjdjnoncoeffaaPDecompOrderx24
import Derived.Test.YtnjdjnoncoeffaaPDecompOrderx25
import Derived.Test.YtnjdjnoncoeffaaPDecompOrderx26
set_option linter.unusedVariables false
namespace Go.Proofs.Ytnjdjnoncoeffaa.Pure
open Go.RowKit Go.Proofs.Ytnjdjnoncoeffaa.PDecompOrder Go.Proofs.YtnjdjnoncoeffaaW.PrintWords Go.Proofs.YtnjdjnoncoeffaaW.PrintLast
theorem wrap_id {x : Int} (h0 : -9223372036854775808 ≤ x) (h1 : x ≤ 9223372036854775807) : wrap64 x = x := by unfold wrap64; omega
def GoodArc (n : Int) (a : S30) : Prop := 1 ≤ a.f0 ∧ a.f0 ≤ n ∧ 1 ≤ a.f1 ∧ a.f1 ≤ n ∧ 0 ≤ a.f2
def sumCap : List S30 → Int
 | [] => 0
 | a :: t => a.f2 + sumCap t
theorem sumCap_nonneg {n : Int} {l : List S30} (h : ∀ a ∈ l, GoodArc n a) : 0 ≤ sumCap l := by
 induction l with
 | nil => exact Int.le_refl 0
 | cons a t ih =>
  have h1 := ih (fun x hx => h x (List.mem_cons_of_mem _ hx))
  have h2 := (h a List.mem_cons_self).2.2.2.2
  simp only [sumCap]; omega
theorem chk_app {n : Int} : ∀ {l m : List S30} {s : Int}, (∀ a ∈ l, GoodArc n a) → 0 ≤ s → s + sumCap l ≤ 4611686018427387903 → chkArcs n (l ++ m) s = chkArcs n m (s + sumCap l)
 | [], m, s, _, _, _ => by simp [sumCap]
 | a :: t, m, s, h, hs, hM => by
  obtain ⟨g0, g1, g2, g3, g4⟩ := h a List.mem_cons_self
  have ht : ∀ x ∈ t, GoodArc n x := fun x hx => h x (List.mem_cons_of_mem _ hx)
  have hn := sumCap_nonneg ht
  simp only [sumCap] at hM
  simp only [List.cons_append, chkArcs]
  rw [if_pos ⟨by omega, by omega⟩, if_pos ⟨g0, g1, g2, g3⟩, if_neg (by omega), if_neg (by omega), chk_app ht (by omega) (by omega)]
  simp only [sumCap]
  rw [Int.add_assoc]
theorem chk_ok {n : Int} {l : List S30} {s : Int} (h : ∀ a ∈ l, GoodArc n a) (hs : 0 ≤ s) (hM : s + sumCap l ≤ 4611686018427387903) : chkArcs n l s = some 0 := by
 have := chk_app (m := []) h hs hM
 rw [List.append_nil] at this
 rw [this, chkArcs]
structure Right (n s t : Int) (l : List S30) : Prop where
 n2 : 2 ≤ n
 n500 : n ≤ 500
 s1 : 1 ≤ s
 sn : s ≤ n
 t1 : 1 ≤ t
 tn : t ≤ n
 ne : s ≠ t
 len : l.length ≤ 2000
 arcs : ∀ a ∈ l, GoodArc n a
 sum : sumCap l ≤ 4611686018427387903
theorem Right.check {n s t : Int} {l : List S30} (h : Right n s t l) : net_Check.f n s t l = some 0 := by
 unfold net_Check.f
 have h1 := h.n2
 have h2 := h.n500
 have h3 := h.s1
 have h4 := h.sn
 have h5 := h.t1
 have h6 := h.tn
 have h8 := h.len
 rw [if_neg (by omega), if_neg (fun hc => hc ⟨h3, h4, h5, h6⟩), if_neg h.ne, if_neg (by omega)]
 exact chk_ok h.arcs (Int.le_refl 0) (by have := h.sum; omega)
def pk (c n : Int) : Int := if c < 0 then Int.tmod (-(c + 1)) n else Int.tmod c n
theorem pk_range {c n : Int} (hn : 0 < n) : 0 ≤ pk c n ∧ pk c n < n := by
 unfold pk
 split
 ·exact ⟨Int.tmod_nonneg _ (by omega), Int.tmod_lt_of_pos _ hn⟩
 ·exact ⟨Int.tmod_nonneg _ (by omega), Int.tmod_lt_of_pos _ hn⟩
theorem wf_bounds {c : Int} (h : (Lit.int .i64 c).wf = true) : -9223372036854775808 ≤ c ∧ c ≤ 9223372036854775807 := by
 simp [Lit.wf] at h
 obtain ⟨h1, h2⟩ := h
 have e : IntKind.i64.min = -9223372036854775808 := by decide
 rw [e] at h1
 exact ⟨h1, h2⟩
theorem pick_eq {c n : Int} (h0 : -9223372036854775808 ≤ c) (h1 : c ≤ 9223372036854775807) (hn : 0 < n) : racewaylaw15_pick.f c n = some (pk c n) := by
 unfold racewaylaw15_pick.f pk
 by_cases hc : c < 0
 ·have e1 : wrap64 (c + 1) = c + 1 := by unfold wrap64; omega
  have e2 : wrap64 (-(c + 1)) = -(c + 1) := by unfold wrap64; omega
  rw [if_pos hc, if_pos hc, if_neg (by omega), e1, e2]
 ·rw [if_neg hc, if_neg hc, if_neg (by omega)]
theorem tdiv_bounds {c d : Int} (h0 : -9223372036854775808 ≤ c) (h1 : c ≤ 9223372036854775807) (hd : 0 < d) : -9223372036854775808 ≤ Int.tdiv c d ∧ Int.tdiv c d ≤ 9223372036854775807 := by
 by_cases hc : 0 ≤ c
 ·rw [Int.tdiv_eq_ediv_of_nonneg hc]
  have h2 := Int.ediv_nonneg hc (Int.le_of_lt hd)
  have h3 : c / d ≤ c := Int.ediv_le_self d hc
  omega
 ·have e : Int.tdiv c d = -(Int.tdiv (-c) d) := by rw [← Int.neg_tdiv, Int.neg_neg]
  rw [e, Int.tdiv_eq_ediv_of_nonneg (by omega)]
  have h2 : 0 ≤ (-c) / d := Int.ediv_nonneg (by omega) (Int.le_of_lt hd)
  have h3 : (-c) / d ≤ -c := Int.ediv_le_self d (by omega)
  omega
def Wfc (x : S61) : Prop := (Lit.int .i64 x.f0).wf = true ∧ (Lit.int .i64 x.f1).wf = true ∧ (Lit.int .i64 x.f2).wf = true
def mkArc (n : Int) (x : S61) : S30 := ⟨1 + pk x.f0 n, 1 + pk x.f1 n, if pk (Int.tdiv x.f2 21) 9 = 0 then pk x.f2 1000000 else pk x.f2 21⟩
theorem mkArc_good {n : Int} (hn : 0 < n) (x : S61) : GoodArc n (mkArc n x) ∧ (mkArc n x).f2 < 1000000 := by
 have h0 := pk_range (c := x.f0) hn
 have h1 := pk_range (c := x.f1) hn
 have h2 := pk_range (c := x.f2) (n := 1000000) (by omega)
 have h3 := pk_range (c := x.f2) (n := 21) (by omega)
 simp only [GoodArc, mkArc]
 split <;> exact ⟨⟨by omega, by omega, by omega, by omega, by omega⟩, by omega⟩
theorem made_loop {l : List S61} (hw : ∀ x ∈ l, Wfc x) {n s t : Int} (h2 : 2 ≤ n) (h9 : n ≤ 9) (d : Nat) : ∀ (i : Nat), i + d = min l.length 24 →
  Ev (fun k => racewaylaw15_made.l0 k l (i : Int) n s t ((l.take i).map (mkArc n))) (n, s, t, (l.take 24).map (mkArc n)) := by
 induction d with
 | zero =>
  intro i hi
  have e : (l.take i).map (mkArc n) = (l.take 24).map (mkArc n) := by
   have e0 : l.take i = l.take 24 := List.take_eq_take_iff.2 (by omega)
   rw [e0]
  by_cases hl : (i : Int) < (l.length : Int)
  ·refine Ev.step (fun k => ?_) (Ev.step (f := fun _ => some (n, s, t, (l.take i).map (mkArc n))) (g := fun k => racewaylaw15_made.j1 k l (i : Int) false n s t ((l.take i).map (mkArc n))) (fun k => ?_) (by rw [e]; exact Ev.now _))
   ·simp only [racewaylaw15_made.l0]
    rw [if_pos hl, decide_eq_false (by omega)]
   ·simp [racewaylaw15_made.j1]
  ·refine Ev.step (fun k => ?_) (Ev.step (f := fun _ => some (n, s, t, (l.take i).map (mkArc n))) (g := fun k => racewaylaw15_made.j1 k l (i : Int) false n s t ((l.take i).map (mkArc n))) (fun k => ?_) (by rw [e]; exact Ev.now _))
   ·simp only [racewaylaw15_made.l0]
    rw [if_neg hl]
   ·simp [racewaylaw15_made.j1]
 | succ d ih =>
  intro i hi
  have hil : i < l.length := by omega
  have hx : rd_T61 l (i : Int) = l[i] := by simp [rd_T61, hil]
  obtain ⟨w0, w1, w2⟩ := hw l[i] (List.getElem_mem hil)
  obtain ⟨l0, u0⟩ := wf_bounds w0
  obtain ⟨l1, u1⟩ := wf_bounds w1
  obtain ⟨l2, u2⟩ := wf_bounds w2
  obtain ⟨l3, u3⟩ := tdiv_bounds l2 u2 (d := 21) (by omega)
  have p0 := pk_range (c := l[i].f0) (n := n) (by omega)
  have p1 := pk_range (c := l[i].f1) (n := n) (by omega)
  have et : (l.take (i + 1)).map (mkArc n) = (l.take i).map (mkArc n) ++ [mkArc n l[i]] := by
   rw [List.take_succ_eq_append_getElem hil, List.map_append]; rfl
  refine Ev.step (f := fun k => racewaylaw15_made.j1 k l (i : Int) true n s t ((l.take i).map (mkArc n))) (fun k => ?_) (Ev.step (f := fun k => racewaylaw15_made.l0 k l ((i + 1 : Nat) : Int) n s t ((l.take (i + 1)).map (mkArc n))) (fun k => ?_) (ih (i + 1) (by omega)))
  ·simp only [racewaylaw15_made.l0]
   rw [if_pos (by omega), decide_eq_true (by omega)]
  ·simp only [racewaylaw15_made.j1, if_true]
   rw [if_pos (by omega), if_pos (by omega), hx, pick_eq l2 u2 (by omega)]
   simp only [Option.bind_some]
   rw [wrap_id l3 u3, pick_eq l3 u3 (by omega)]
   simp only [Option.bind_some]
   rw [pick_eq l2 u2 (by omega), pick_eq l0 u0 (by omega), pick_eq l1 u1 (by omega)]
   simp only [Option.bind_some]
   rw [wrap_id (by omega) (by omega), wrap_id (by omega) (by omega), wrap_id (by omega) (by omega), et]
   have hlm : ((l.take i).map (mkArc n)).length < 5864062014805 := by rw [List.length_map, List.length_take]; omega
   by_cases hz : pk (Int.tdiv l[i].f2 21) 9 = 0
   ·rw [if_pos hz, if_pos hlm]
    simp only [mkArc, if_pos hz]
    rfl
   ·rw [if_neg hz, if_pos hlm]
    simp only [mkArc, if_neg hz]
    rfl
theorem made_ev {a0 a1 : Int} {l : List S61} (w0 : (Lit.int .i64 a0).wf = true) (w1 : (Lit.int .i64 a1).wf = true) (hw : ∀ x ∈ l, Wfc x) :
  ∃ n s t arcs, Ev (fun k => racewaylaw15_made.f k a0 a1 l) (n, s, t, arcs) ∧ 2 ≤ n ∧ n ≤ 9 ∧ Right n s t arcs ∧ arcs.length ≤ 24 ∧ arcs.length = min l.length 24 ∧ (∀ a ∈ arcs, a.f2 < 1000000) := by
 obtain ⟨l0, u0⟩ := wf_bounds w0
 obtain ⟨l1, u1⟩ := wf_bounds w1
 obtain ⟨l2, u2⟩ := tdiv_bounds l1 u1 (d := 16) (by omega)
 have p0 := pk_range (c := a0) (n := 8) (by omega)
 obtain ⟨n, hn⟩ : ∃ n, 2 + pk a0 8 = n := ⟨_, rfl⟩
 have p1 := pk_range (c := a1) (n := n) (by omega)
 have p2 := pk_range (c := Int.tdiv a1 16) (n := n - 1) (by omega)
 obtain ⟨s, hs⟩ : ∃ s, 1 + pk a1 n = s := ⟨_, rfl⟩
 obtain ⟨q, hq⟩ : ∃ q, pk (Int.tdiv a1 16) (n - 1) = q := ⟨_, rfl⟩
 obtain ⟨t, ht⟩ : ∃ t, 1 + Int.tmod (s + q) n = t := ⟨_, rfl⟩
 have b0 : 0 ≤ Int.tmod (s + q) n := Int.tmod_nonneg _ (by omega)
 have b1 : Int.tmod (s + q) n < n := Int.tmod_lt_of_pos _ (by omega)
 have hne : s ≠ t := by
  have e : Int.tmod (s + q) n = (s + q) % n := Int.tmod_eq_emod_of_nonneg (by omega)
  rw [hq] at p2
  by_cases hc : s + q < n
  ·rw [Int.emod_eq_of_lt (by omega) hc] at e; omega
  ·have e2 : (s + q) % n = (s + q - n) % n := by rw [Int.sub_emod_right]
   rw [e2, Int.emod_eq_of_lt (by omega) (by omega)] at e; omega
 have hlen : ((l.take 24).map (mkArc n)).length = min l.length 24 := by simp; omega
 have hgood : ∀ a ∈ (l.take 24).map (mkArc n), GoodArc n a ∧ a.f2 < 1000000 := by
  intro a ha
  obtain ⟨x, _, rfl⟩ := List.mem_map.1 ha
  exact mkArc_good (by omega) x
 have hsum : ∀ m : List S30, (∀ a ∈ m, GoodArc n a ∧ a.f2 < 1000000) → sumCap m ≤ 1000000 * m.length := by
  intro m
  induction m with
  | nil => intro _; simp [sumCap]
  | cons a r ih =>
   intro h
   have h1 := ih (fun x hx => h x (List.mem_cons_of_mem _ hx))
   have h2 := (h a List.mem_cons_self).2
   simp only [sumCap, List.length_cons]; omega
 have hs2 := hsum _ hgood
 refine ⟨n, s, t, (l.take 24).map (mkArc n), ?_, by omega, by omega, ⟨by omega, by omega, by omega, by omega, by omega, by omega, hne, by omega, fun a ha => (hgood a ha).1, by omega⟩, by omega, hlen, fun a ha => (hgood a ha).2⟩
 refine Ev.congr (f := fun k => racewaylaw15_made.l0 k l 0 n s t []) (fun k => ?_) ?_
 ·unfold racewaylaw15_made.f
  rw [pick_eq l0 u0 (by omega)]
  simp only [Option.bind_some]
  rw [wrap_id (x := 2 + pk a0 8) (by omega) (by omega), hn, pick_eq l1 u1 (by omega)]
  simp only [Option.bind_some]
  rw [wrap_id (x := n - 1) (by omega) (by omega), wrap_id l2 u2, pick_eq l2 u2 (by omega)]
  simp only [Option.bind_some]
  rw [if_neg (by omega), wrap_id (x := 1 + pk a1 n) (by omega) (by omega), hs, hq, wrap_id (x := s + q) (by omega) (by omega), wrap_id (x := 1 + Int.tmod (s + q) n) (by omega) (by omega), ht]
 ·have := made_loop hw (n := n) (s := s) (t := t) (by omega) (by omega) (min l.length 24) 0 (by omega)
  simpa using this
def Within : List S30 → List Int → Prop
 | [], [] => True
 | a :: l, x :: f => 0 ≤ x ∧ x ≤ a.f2 ∧ Within l f
 | _, _ => False
def exc : List S30 → List Int → Int → Int
 | a :: l, x :: f, v => (if a.f1 = v then x else 0) - (if a.f0 = v then x else 0) + exc l f v
 | _, _, _ => 0
theorem exc_nil (f : List Int) (v : Int) : exc [] f v = 0 := by cases f <;> rfl
def sumL : List Int → Int
 | [] => 0
 | x :: f => x + sumL f
theorem Within.len : ∀ {l : List S30} {f : List Int}, Within l f → f.length = l.length
 | [], [], _ => rfl
 | _ :: _, _ :: _, h => by simp [Within.len h.2.2]
 | [], _ :: _, h => h.elim
 | _ :: _, [], h => h.elim
theorem Within.get : ∀ {l : List S30} {f : List Int}, Within l f → ∀ i (h : i < l.length) (h' : i < f.length), 0 ≤ f[i] ∧ f[i] ≤ (l[i]).f2
 | _ :: _, _ :: _, h, 0, _, _ => ⟨h.1, h.2.1⟩
 | _ :: l, _ :: f, h, i + 1, h1, h2 => by
  simp only [List.getElem_cons_succ]
  exact Within.get h.2.2 i (by simpa using h1) (by simpa using h2)
 | [], [], _, i, h1, _ => absurd h1 (by simp)
theorem Within.of : ∀ {l : List S30} {f : List Int}, f.length = l.length → (∀ i (h : i < l.length) (h' : i < f.length), 0 ≤ f[i] ∧ f[i] ≤ (l[i]).f2) → Within l f
 | [], [], _, _ => trivial
 | a :: l, x :: f, hl, h => by
  have h0 := h 0 (by simp) (by simp)
  exact ⟨h0.1, h0.2, Within.of (by simpa using hl) (fun i h1 h2 => by have := h (i + 1) (by simpa using h1) (by simpa using h2); simpa using this)⟩
 | [], _ :: _, hl, _ => absurd hl (by simp)
 | _ :: _, [], hl, _ => absurd hl (by simp)
theorem rd_get {f : List Int} {i : Nat} (h : i < f.length) : rd f (i : Int) = f[i] := by simp [rd, h]
theorem rdT_get {l : List S30} {i : Nat} (h : i < l.length) : rd_T30 l (i : Int) = l[i] := by simp [rd_T30, h]
theorem Within.sum : ∀ {l : List S30} {f : List Int}, Within l f → 0 ≤ sumL f ∧ sumL f ≤ sumCap l
 | [], [], _ => ⟨Int.le_refl _, Int.le_refl _⟩
 | a :: l, x :: f, h => by
  have := Within.sum h.2.2
  have h1 := h.1
  have h2 := h.2.1
  simp only [sumL, sumCap]; omega
 | [], _ :: _, h => h.elim
 | _ :: _, [], h => h.elim
theorem Within.nonneg : ∀ {l : List S30} {f : List Int}, Within l f → ∀ x ∈ f, 0 ≤ x
 | [], [], _, x, hx => by cases hx
 | a :: l, y :: f, h, x, hx => by
  rcases List.mem_cons.1 hx with rfl | hx
  ·exact h.1
  ·exact Within.nonneg h.2.2 x hx
 | [], _ :: _, h, _, _ => h.elim
 | _ :: _, [], h, _, _ => h.elim
theorem Within.drop : ∀ {l : List S30} {f : List Int}, Within l f → ∀ i, Within (l.drop i) (f.drop i)
 | l, f, h, 0 => by simpa using h
 | [], [], _, _ + 1 => trivial
 | _ :: _, _ :: _, h, i + 1 => by simpa using Within.drop h.2.2 i
 | [], _ :: _, h, _ + 1 => h.elim
 | _ :: _, [], h, _ + 1 => h.elim
theorem Within.zeros : ∀ {l : List S30}, (∀ a ∈ l, 0 ≤ a.f2) → Within l (List.replicate l.length 0)
 | [], _ => trivial
 | a :: l, h => ⟨Int.le_refl _, h a List.mem_cons_self, Within.zeros (fun x hx => h x (List.mem_cons_of_mem _ hx))⟩
theorem exc_zeros : ∀ (l : List S30) (n : Nat) (v : Int), exc l (List.replicate n 0) v = 0
 | [], _, _ => by simp [exc]
 | _ :: _, 0, _ => by simp [exc]
 | a :: l, n + 1, v => by
  simp only [List.replicate_succ, exc, exc_zeros l n v]
  split <;> split <;> rfl
theorem Within.set : ∀ {l : List S30} {f : List Int}, Within l f → ∀ (i : Nat) (x : Int), 0 ≤ x → (∀ h : i < l.length, x ≤ (l[i]).f2) → Within l (f.set i x)
 | [], [], _, _, _, _, _ => by simp [Within]
 | a :: l, y :: f, h, 0, x, h0, hx => ⟨h0, hx (by simp), h.2.2⟩
 | a :: l, y :: f, h, i + 1, x, h0, hx => ⟨h.1, h.2.1, Within.set h.2.2 i x h0 (fun h' => by have := hx (by simpa using h'); simpa using this)⟩
 | [], _ :: _, h, _, _, _, _ => h.elim
 | _ :: _, [], h, _, _, _, _ => h.elim
theorem exc_set : ∀ {l : List S30} {f : List Int} (i : Nat) (x v : Int) (h : i < l.length) (h' : i < f.length),
  exc l (f.set i x) v = exc l f v + ((if (l[i]).f1 = v then x - f[i] else 0) - (if (l[i]).f0 = v then x - f[i] else 0))
 | [], _, _, _, _, h, _ => absurd h (by simp)
 | _ :: _, [], _, _, _, _, h' => absurd h' (by simp)
 | a :: l, y :: f, 0, x, v, _, _ => by
  simp only [List.set_cons_zero, exc, List.getElem_cons_zero]
  split <;> split <;> omega
 | a :: l, y :: f, i + 1, x, v, h, h' => by
  simp only [List.set_cons_succ, exc, List.getElem_cons_succ]
  rw [exc_set i x v (by simpa using h) (by simpa using h')]
  omega
theorem exc_bound : ∀ {l : List S30} {f : List Int}, (∀ x ∈ f, 0 ≤ x) → ∀ v, -sumL f ≤ exc l f v ∧ exc l f v ≤ sumL f
 | [], f, h, v => by
  have : ∀ g : List Int, (∀ x ∈ g, 0 ≤ x) → 0 ≤ sumL g := by
   intro g
   induction g with
   | nil => intro _; exact Int.le_refl _
   | cons y g ih => intro hg; have := ih (fun x hx => hg x (List.mem_cons_of_mem _ hx)); have := hg y List.mem_cons_self; simp only [sumL]; omega
  have := this f h
  simp only [exc]; omega
 | _ :: _, [], _, v => by simp [exc, sumL]
 | a :: l, x :: f, h, v => by
  have h1 := exc_bound (l := l) (fun y hy => h y (List.mem_cons_of_mem _ hy)) v
  have h2 := h x List.mem_cons_self
  simp only [exc, sumL]
  split <;> split <;> omega
structure IsFlow (n s t : Int) (l : List S30) (f : List Int) : Prop where
 within : Within l f
 cons : ∀ v, 1 ≤ v → v ≤ n → v ≠ s → v ≠ t → exc l f v = 0
theorem IsFlow.zeros {n s t : Int} {l : List S30} (h : ∀ a ∈ l, GoodArc n a) : IsFlow n s t l (List.replicate l.length 0) :=
 ⟨Within.zeros (fun a ha => (h a ha).2.2.2.2), fun v _ _ _ _ => exc_zeros _ _ _⟩
def sumTo (g : Int → Int) : Nat → Int
 | 0 => 0
 | n + 1 => sumTo g n + g ((n : Int) + 1)
theorem sumTo_add (g h : Int → Int) (n : Nat) : sumTo (fun v => g v + h v) n = sumTo g n + sumTo h n := by
 induction n with
 | zero => rfl
 | succ n ih => simp only [sumTo, ih]; omega
theorem sumTo_ext {g h : Int → Int} : ∀ {n : Nat}, (∀ v, 1 ≤ v → v ≤ (n : Int) → g v = h v) → sumTo g n = sumTo h n
 | 0, _ => rfl
 | n + 1, e => by
  simp only [sumTo]
  rw [sumTo_ext (n := n) (fun v h1 h2 => e v h1 (by omega)), e ((n : Int) + 1) (by omega) (by omega)]
theorem sumTo_one (u x : Int) : ∀ {n : Nat}, 1 ≤ u → u ≤ (n : Int) → sumTo (fun v => if u = v then x else 0) n = x
 | 0, h1, h2 => by omega
 | n + 1, h1, h2 => by
  simp only [sumTo]
  by_cases hu : u = (n : Int) + 1
  ·have e : sumTo (fun v => if u = v then x else 0) n = sumTo (fun _ => 0) n := sumTo_ext (fun v _ hv => if_neg (by omega))
   have z : ∀ m, sumTo (fun _ => 0) m = 0 := by intro m; induction m with
    | zero => rfl
    | succ m ih => simp only [sumTo, ih]; omega
   rw [e, z, if_pos hu]; omega
  ·rw [sumTo_one u x h1 (by omega), if_neg hu]; omega
theorem sumTo_zero (n : Nat) : sumTo (fun _ => 0) n = 0 := by
 induction n with
 | zero => rfl
 | succ m ih => simp only [sumTo, ih]; omega
theorem sumTo_neg (g : Int → Int) (n : Nat) : sumTo (fun v => -g v) n = -sumTo g n := by
 induction n with
 | zero => rfl
 | succ m ih => simp only [sumTo, ih]; omega
theorem exc_total : ∀ {l : List S30} {f : List Int} {n : Nat}, (∀ a ∈ l, GoodArc (n : Int) a) → sumTo (exc l f) n = 0
 | [], f, n, _ => by
  have : sumTo (exc [] f) n = sumTo (fun _ => 0) n := sumTo_ext (fun v _ _ => by simp [exc])
  rw [this, sumTo_zero]
 | a :: l, [], n, _ => by
  have : sumTo (exc (a :: l) []) n = sumTo (fun _ => 0) n := sumTo_ext (fun v _ _ => by simp [exc])
  rw [this, sumTo_zero]
 | a :: l, x :: f, n, h => by
  obtain ⟨g0, g1, g2, g3, _⟩ := h a List.mem_cons_self
  have ih := exc_total (l := l) (f := f) (n := n) (fun y hy => h y (List.mem_cons_of_mem _ hy))
  have e : sumTo (exc (a :: l) (x :: f)) n = sumTo (fun v => ((if a.f1 = v then x else 0) + -(if a.f0 = v then x else 0)) + exc l f v) n := sumTo_ext (fun v _ _ => by simp only [exc]; omega)
  rw [e, sumTo_add, sumTo_add, sumTo_neg, sumTo_one a.f1 x g2 g3, sumTo_one a.f0 x g0 g1, ih]
  omega
theorem rd_set {xs : List Int} {j u x : Int} (h0 : 0 ≤ j) (h1 : j < (xs.length : Int)) (hu : 0 ≤ u) : rd (xs.set j.toNat x) u = if j = u then x else rd xs u := by
 unfold rd
 rw [List.getD_eq_getElem?_getD, List.getD_eq_getElem?_getD, List.getElem?_set]
 by_cases e : j = u
 ·subst e
  rw [if_pos rfl, if_pos (by omega), if_pos rfl]; rfl
 ·rw [if_neg (by omega), if_neg e]
theorem sumL_drop {f : List Int} {i : Nat} (h : i < f.length) : sumL (f.drop i) = f[i] + sumL (f.drop (i + 1)) := by
 rw [List.drop_eq_getElem_cons h]; rfl
theorem sumL_nonneg : ∀ {g : List Int}, (∀ x ∈ g, 0 ≤ x) → 0 ≤ sumL g
 | [], _ => Int.le_refl _
 | y :: g, h => by
  have h1 := sumL_nonneg (g := g) (fun x hx => h x (List.mem_cons_of_mem _ hx))
  have h2 := h y List.mem_cons_self
  simp only [sumL]; omega
theorem exc_loop {n : Int} {l : List S30} {f : List Int} (hg : ∀ a ∈ l, GoodArc n a) (hf : ∀ x ∈ f, 0 ≤ x) (hlen : f.length = l.length) (hS : sumL f ≤ 4611686018427387903) (hl : l.length ≤ 2000) (d : Nat) :
  ∀ (i : Nat) (out : List Int), i + d = l.length → (out.length : Int) = n + 1 → (∀ v, 0 ≤ v → v ≤ n → -(sumL f - sumL (f.drop i)) ≤ rd out v ∧ rd out v ≤ sumL f - sumL (f.drop i)) →
   ∃ out', Ev (fun k => flow_excesses.l0 k f out l (l.length : Int) (i : Int)) out' ∧ (out'.length : Int) = n + 1 ∧ ∀ v, 0 ≤ v → v ≤ n → rd out' v = rd out v + exc (l.drop i) (f.drop i) v := by
 induction d with
 | zero =>
  intro i out hi ho _
  refine ⟨out, Ev.step (f := fun _ => some out) (fun k => ?_) (Ev.now _), ho, fun v _ _ => ?_⟩
  ·simp only [flow_excesses.l0]
   rw [if_neg (by omega)]
  ·rw [List.drop_of_length_le (show l.length ≤ i by omega), exc_nil]; omega
 | succ d ih =>
  intro i out hi ho hb
  have hil : i < l.length := by omega
  have hif : i < f.length := by omega
  obtain ⟨g0, g1, g2, g3, _⟩ := hg l[i] (List.getElem_mem hil)
  have hx0 := hf f[i] (List.getElem_mem hif)
  have hsd := sumL_drop hif
  have hsn := sumL_nonneg (g := f.drop (i + 1)) (fun x hx => hf x (List.mem_of_mem_drop hx))
  have b0 := hb (l[i]).f0 (by omega) g1
  have e1 : wrap64 (rd out (l[i]).f0 - f[i]) = rd out (l[i]).f0 - f[i] := wrap_id (by omega) (by omega)
  have hr1 : ∀ u, 0 ≤ u → rd (out.set ((l[i]).f0).toNat (rd out (l[i]).f0 - f[i])) u = if (l[i]).f0 = u then rd out (l[i]).f0 - f[i] else rd out u := fun u hu => rd_set (by omega) (by omega) hu
  have b1 := hb (l[i]).f1 (by omega) g3
  have e2 : wrap64 (rd (out.set ((l[i]).f0).toNat (rd out (l[i]).f0 - f[i])) (l[i]).f1 + f[i]) = rd (out.set ((l[i]).f0).toNat (rd out (l[i]).f0 - f[i])) (l[i]).f1 + f[i] := by
   have := hr1 (l[i]).f1 (by omega)
   rw [this]
   split <;> exact wrap_id (by omega) (by omega)
  have hr2 : ∀ u, 0 ≤ u → rd ((out.set ((l[i]).f0).toNat (rd out (l[i]).f0 - f[i])).set ((l[i]).f1).toNat (rd (out.set ((l[i]).f0).toNat (rd out (l[i]).f0 - f[i])) (l[i]).f1 + f[i])) u = rd out u + ((if (l[i]).f1 = u then f[i] else 0) - (if (l[i]).f0 = u then f[i] else 0)) := by
   intro u hu
   rw [rd_set (by omega) (by rw [List.length_set]; omega) hu, hr1 (l[i]).f1 (by omega), hr1 u hu]
   by_cases c1 : (l[i]).f1 = u
   ·by_cases c0 : (l[i]).f0 = u
    ·rw [if_pos c1, if_pos (by omega), if_pos c1, if_pos c0, c0]; omega
    ·rw [if_pos c1, if_neg (by omega), if_pos c1, if_neg c0, c1]; omega
   ·by_cases c0 : (l[i]).f0 = u
    ·rw [if_neg c1, if_pos c0, if_neg c1, if_pos c0, c0]; omega
    ·rw [if_neg c1, if_neg c0, if_neg c1, if_neg c0]; omega
  obtain ⟨Y, hYd⟩ : ∃ Y, ((out.set ((l[i]).f0).toNat (rd out (l[i]).f0 - f[i])).set ((l[i]).f1).toNat (rd (out.set ((l[i]).f0).toNat (rd out (l[i]).f0 - f[i])) (l[i]).f1 + f[i])) = Y := ⟨_, rfl⟩
  rw [hYd] at hr2
  obtain ⟨out', h1, h2, h3⟩ := ih (i + 1) Y (by omega) (by rw [← hYd, List.length_set, List.length_set]; exact ho) (fun v hv0 hv1 => by
   have hbv := hb v hv0 hv1
   have e := hr2 v hv0
   rw [e]
   by_cases c1 : (l[i]).f1 = v
   ·by_cases c0 : (l[i]).f0 = v
    ·rw [if_pos c1, if_pos c0]; omega
    ·rw [if_pos c1, if_neg c0]; omega
   ·by_cases c0 : (l[i]).f0 = v
    ·rw [if_neg c1, if_pos c0]; omega
    ·rw [if_neg c1, if_neg c0]; omega)
  refine ⟨out', Ev.step (fun k => ?_) h1, h2, fun v hv0 hv1 => ?_⟩
  ·simp only [flow_excesses.l0]
   rw [if_pos (by omega), if_pos (by omega), if_pos (by omega), rdT_get hil, rd_get hif, if_pos (by omega), if_pos (by omega), if_pos (by omega), e1]
   simp only [Option.bind_some]
   rw [if_pos (by omega), if_pos (by omega), e2, wrap_id (by omega) (by omega), hYd]
   rfl
  ·rw [h3 v hv0 hv1, hr2 v hv0, List.drop_eq_getElem_cons hil, List.drop_eq_getElem_cons hif]
   simp only [exc]; omega
theorem rd_replicate (m : Nat) (v : Int) : rd (List.replicate m 0) v = 0 := by
 unfold rd
 rw [List.getD_eq_getElem?_getD, List.getElem?_replicate]
 split <;> rfl
theorem excesses_ev {n s t : Int} {l : List S30} {f : List Int} (R : Right n s t l) (W : Within l f) :
  ∃ out, Ev (fun k => flow_excesses.f k n s t l f) out ∧ (out.length : Int) = n + 1 ∧ ∀ v, 0 ≤ v → v ≤ n → rd out v = exc l f v := by
 have h1 := R.n2
 have h2 := R.n500
 have hs := W.sum
 have hR := R.sum
 obtain ⟨out, ho, hl, hv⟩ := exc_loop R.arcs W.nonneg W.len (by omega) R.len l.length 0 (List.replicate (n + 1).toNat 0) (by omega) (by simp; omega) (fun v _ _ => by rw [rd_replicate, List.drop_zero]; omega)
 refine ⟨out, Ev.congr (fun k => ?_) ho, hl, fun v h0 h3 => ?_⟩
 ·unfold flow_excesses.f
  rw [wrap_id (x := n + 1) (by omega) (by omega), if_pos (by omega), if_pos (by omega)]
  rfl
 ·rw [hv v h0 h3, rd_replicate, List.drop_zero, List.drop_zero]; omega
theorem within_loop {n s t : Int} {l : List S30} {f : List Int} (W : Within l f) (hl : l.length ≤ 2000) (d : Nat) : ∀ i : Nat, i + d = f.length → Ev (fun k => flow_within.l0 k f (f.length : Int) (i : Int) n s t l) 0 := by
 have hlen := W.len
 induction d with
 | zero =>
  intro i hi
  refine Ev.step (f := fun _ => some 0) (fun k => ?_) (Ev.now _)
  simp only [flow_within.l0]
  rw [if_neg (by omega)]
 | succ d ih =>
  intro i hi
  have hif : i < f.length := by omega
  have hil : i < l.length := by omega
  have hb := W.get i hil hif
  refine Ev.step (fun k => ?_) (ih (i + 1) (by omega))
  simp only [flow_within.l0]
  rw [if_pos (by omega), if_pos (by omega), if_pos (by omega), rd_get hif, rdT_get hil, if_neg (by omega), if_pos (by omega), if_neg (by omega), wrap_id (by omega) (by omega)]
  rfl
theorem within_yes {n s t : Int} {l : List S30} {f : List Int} (R : Right n s t l) (W : Within l f) : Ev (fun k => flow_within.f k n s t l f) 0 := by
 have hlen := W.len
 refine Ev.congr (fun k => ?_) (within_loop (n := n) (s := s) (t := t) W R.len f.length 0 (by omega))
 unfold flow_within.f
 rw [R.check]
 simp only [Option.bind_some, if_true]
 rw [if_pos (by omega)]
 rfl
theorem check_loop {n s t : Int} {l : List S30} {x : List Int} (hn : n ≤ 500) (hx : (x.length : Int) = n + 1) (d : Nat) : ∀ i : Nat, (i : Int) + d = n → (∀ v, (i : Int) < v → v ≤ n → v ≠ s → v ≠ t → rd x v = 0) →
  Ev (fun k => flow_Check.l0 k x n (i : Int) n s t l) 0 := by
 induction d with
 | zero =>
  intro i hi _
  refine Ev.step (f := fun _ => some 0) (fun k => ?_) (Ev.now _)
  simp only [flow_Check.l0]
  rw [if_neg (by omega)]
 | succ d ih =>
  intro i hi hz
  refine Ev.step (fun k => ?_) (ih (i + 1) (by omega) (fun v h1 h2 h3 h4 => hz v (by omega) h2 h3 h4))
  simp only [flow_Check.l0]
  rw [if_pos (by omega), wrap_id (by omega) (by omega)]
  by_cases c1 : (i : Int) + 1 = s
  ·rw [if_pos c1]; rfl
  ·by_cases c2 : (i : Int) + 1 = t
   ·rw [if_neg c1, if_pos c2]; rfl
   ·rw [if_neg c1, if_neg c2, if_pos (by omega), if_pos (by omega), if_pos (hz _ (by omega) (by omega) c1 c2)]; rfl
theorem check_flow {n s t : Int} {l : List S30} {f : List Int} (R : Right n s t l) (F : IsFlow n s t l f) : Ev (fun k => flow_Check.f k n s t l f) 0 := by
 obtain ⟨x, h1, h2, h3⟩ := excesses_ev R F.within
 have hn := R.n2
 unfold flow_Check.f
 refine Ev.bind (within_yes R F.within) ?_
 simp only [if_true]
 refine Ev.bind h1 ?_
 exact check_loop R.n500 h2 n.toNat 0 (by omega) (fun v hv1 hv2 hv3 hv4 => by rw [h3 v (by omega) hv2]; exact F.cons v (by omega) hv2 hv3 hv4)
theorem rdOf_set {m : List Bool} {j u : Int} {b : Bool} (h0 : 0 ≤ j) (h1 : j < (m.length : Int)) (hu : 0 ≤ u) : rdOf false (m.set j.toNat b) u = if j = u then b else rdOf false m u := by
 unfold rdOf
 rw [List.getD_eq_getElem?_getD, List.getD_eq_getElem?_getD, List.getElem?_set]
 by_cases e : j = u
 ·subst e
  rw [if_pos rfl, if_pos (by omega), if_pos rfl]; rfl
 ·rw [if_neg (by omega), if_neg e]
def cntF : List Bool → Nat
 | [] => 0
 | b :: m => (if b = true then 0 else 1) + cntF m
theorem cntF_set : ∀ {m : List Bool} {i : Nat}, i < m.length → m.getD i false = false → cntF (m.set i true) + 1 = cntF m
 | [], _, h, _ => absurd h (by simp)
 | b :: m, 0, _, h => by
  have hb : b = false := by simpa using h
  subst hb
  simp [cntF]; omega
 | b :: m, i + 1, h, hb => by
  have := cntF_set (m := m) (i := i) (by simpa using h) (by simpa using hb)
  simp only [List.set_cons_succ, cntF]; omega
theorem cntF_replicate (k : Nat) : cntF (List.replicate k false) = k := by
 induction k with
 | zero => rfl
 | succ k ih => simp only [List.replicate_succ, cntF, ih]; simp; omega
def Path (l : List S30) : Int → List Int → Int → Prop
 | u, [], v => u = v
 | u, i :: w, v => (rd_T30 l i).f0 = u ∧ Path l (rd_T30 l i).f1 w v
theorem Path.snoc {l : List S30} : ∀ {w : List Int} {u v i : Int}, Path l u w v → (rd_T30 l i).f0 = v → Path l u (w ++ [i]) (rd_T30 l i).f1
 | [], u, v, i, h, hi => ⟨by rw [hi]; exact h.symm, rfl⟩
 | _ :: w, u, v, i, h, hi => ⟨h.1, Path.snoc h.2 hi⟩
def GoodWalk (l : List S30) (f : List Int) (s t : Int) (w : List Int) : Prop :=
 w = [] ∨ (Path l s w t ∧ w.Nodup ∧ ∀ j ∈ w, 0 ≤ j ∧ j < (l.length : Int) ∧ rd f j < (rd_T30 l j).f2)
def FitOk (l : List S30) (f : List Int) (met : List Bool) (at_ : Int) (F : List Int) : Prop :=
 ∀ j ∈ F, 0 ≤ j ∧ j < (l.length : Int) ∧ (rd_T30 l j).f0 = at_ ∧ rdOf false met (rd_T30 l j).f1 = false ∧ rd f j < (rd_T30 l j).f2
theorem wrap_succ {i : Nat} (h : i ≤ 1000000) : wrap64 ((i : Int) + 1) = ((i + 1 : Nat) : Int) := by rw [wrap_id (by omega) (by omega)]; rfl
theorem fit_run {n s t at_ raw : Int} {l : List S30} {f w : List Int} {met : List Bool} (hg : ∀ a ∈ l, GoodArc n a) (hlen : f.length = l.length) (hl : l.length ≤ 2000) (hm : (met.length : Int) = n + 1) (Q : List Int → Prop)
  (H : ∀ F, FitOk l f met at_ F → F.length ≤ l.length → ∃ r, Ev (fun k => racewaylaw15_walked.l1 k f raw met at_ w F (l.length : Int) n s t l) r ∧ Q r) (d : Nat) :
  ∀ (i : Nat) (F : List Int), i + d = l.length → FitOk l f met at_ F → F.length ≤ i → ∃ r, Ev (fun k => racewaylaw15_walked.l1 k f raw met at_ w F (i : Int) n s t l) r ∧ Q r := by
 induction d with
 | zero =>
  intro i F hi hF hlF
  obtain rfl : i = l.length := by omega
  exact H F hF hlF
 | succ d ih =>
  intro i F hi hF hlF
  have hil : i < l.length := by omega
  have hif : i < f.length := by omega
  obtain ⟨g0, g1, g2, g3, g4⟩ := hg l[i] (List.getElem_mem hil)
  by_cases c0 : (l[i]).f0 = at_
  ·by_cases c1 : rdOf false met (l[i]).f1 = true
   ·obtain ⟨r, hr, hq⟩ := ih (i + 1) F (by omega) hF (by omega)
    refine ⟨r, Ev.step (fun k => ?_) hr, hq⟩
    simp only [racewaylaw15_walked.l1]
    rw [if_pos (by omega), if_pos (by omega), rdT_get hil, if_pos c0, if_pos (by omega), if_pos (by omega), if_pos c1, wrap_succ (by omega)]
   ·by_cases c2 : f[i] < (l[i]).f2
    ·obtain ⟨r, hr, hq⟩ := ih (i + 1) (F ++ [(i : Int)]) (by omega) (fun j hj => by
      rcases List.mem_append.1 hj with hj | hj
      ·exact hF j hj
      ·obtain rfl := List.mem_singleton.1 hj
       rw [rdT_get hil, rd_get hif]
       exact ⟨by omega, by omega, c0, by simpa using c1, c2⟩) (by simp; omega)
     refine ⟨r, Ev.step (fun k => ?_) hr, hq⟩
     simp only [racewaylaw15_walked.l1]
     rw [if_pos (by omega), if_pos (by omega), rdT_get hil, rd_get hif, if_pos c0, if_pos (by omega), if_pos (by omega), if_neg c1, if_pos (by omega), if_pos c2, if_pos (by omega), wrap_succ (by omega)]
    ·obtain ⟨r, hr, hq⟩ := ih (i + 1) F (by omega) hF (by omega)
     refine ⟨r, Ev.step (fun k => ?_) hr, hq⟩
     simp only [racewaylaw15_walked.l1]
     rw [if_pos (by omega), if_pos (by omega), rdT_get hil, rd_get hif, if_pos c0, if_pos (by omega), if_pos (by omega), if_neg c1, if_pos (by omega), if_neg c2, wrap_succ (by omega)]
  ·obtain ⟨r, hr, hq⟩ := ih (i + 1) F (by omega) hF (by omega)
   refine ⟨r, Ev.step (fun k => ?_) hr, hq⟩
   simp only [racewaylaw15_walked.l1]
   rw [if_pos (by omega), if_pos (by omega), rdT_get hil, if_neg c0, wrap_succ (by omega)]
theorem rd_mem {F : List Int} {i : Int} (h0 : 0 ≤ i) (h1 : i < (F.length : Int)) : rd F i ∈ F := by
 have hlt : i.toNat < F.length := by omega
 have : rd F i = F[i.toNat] := by unfold rd; rw [List.getD_eq_getElem?_getD, List.getElem?_eq_getElem hlt]; rfl
 rw [this]; exact List.getElem_mem hlt
theorem rdT_mem {l : List S30} {i : Int} (h0 : 0 ≤ i) (h1 : i < (l.length : Int)) : rd_T30 l i ∈ l := by
 have hlt : i.toNat < l.length := by omega
 have : rd_T30 l i = l[i.toNat] := by unfold rd_T30; rw [List.getD_eq_getElem?_getD, List.getElem?_eq_getElem hlt]; rfl
 rw [this]; exact List.getElem_mem hlt
theorem walk_run {n s t raw : Int} {l : List S30} {f : List Int} (hraw : (Lit.int .i64 raw).wf = true) (hg : ∀ a ∈ l, GoodArc n a) (hlen : f.length = l.length) (hl : l.length ≤ 2000) (hn : n ≤ 500) (c : Nat) :
  ∀ (met : List Bool) (at_ : Int) (w : List Int), cntF met = c → (met.length : Int) = n + 1 → (w.length : Int) + c ≤ n + 1 → Path l s w at_ → w.Nodup →
   (∀ j ∈ w, 0 ≤ j ∧ j < (l.length : Int) ∧ rd f j < (rd_T30 l j).f2 ∧ rdOf false met (rd_T30 l j).f1 = true) →
   ∃ r, Ev (fun k => racewaylaw15_walked.l0 k f raw met at_ w n s t l) r ∧ GoodWalk l f s t r := by
 obtain ⟨r0, r1⟩ := wf_bounds hraw
 induction c with
 | zero =>
  intro met at_ w hc hm hw hp hnd hj
  by_cases ht : at_ = t
  ·refine ⟨w, Ev.step (f := fun _ => some w) (fun k => ?_) (Ev.now _), Or.inr ⟨by rw [← ht]; exact hp, hnd, fun j h => ⟨(hj j h).1, (hj j h).2.1, (hj j h).2.2.1⟩⟩⟩
   simp only [racewaylaw15_walked.l0]
   rw [if_pos ht]
  ·obtain ⟨r, hr, hq⟩ := fit_run (n := n) (s := s) (t := t) (at_ := at_) (raw := raw) (w := w) hg hlen hl hm (GoodWalk l f s t) (fun F hF hFl => by
    have hF0 : F = [] := by
     cases F with
     | nil => rfl
     | cons j F =>
      exfalso
      obtain ⟨h0, h1, h2, h3, h4⟩ := hF j List.mem_cons_self
      obtain ⟨g0, g1, g2, g3, _⟩ := hg _ (rdT_mem h0 h1)
      have := cntF_set (m := met) (i := ((rd_T30 l j).f1).toNat) (by omega) h3
      omega
    subst hF0
    refine ⟨[], Ev.step (f := fun _ => some []) (fun k => ?_) (Ev.now _), Or.inl rfl⟩
    simp only [racewaylaw15_walked.l1]
    rw [if_neg (by omega), if_pos (show (([] : List Int).length : Int) = 0 from rfl)]) l.length 0 [] (by omega) (fun j h => by cases h) (Nat.le_refl _)
   refine ⟨r, Ev.step (fun k => ?_) hr, hq⟩
   simp only [racewaylaw15_walked.l0]
   rw [if_neg ht]
   rfl
 | succ c ih =>
  intro met at_ w hc hm hw hp hnd hj
  by_cases ht : at_ = t
  ·refine ⟨w, Ev.step (f := fun _ => some w) (fun k => ?_) (Ev.now _), Or.inr ⟨by rw [← ht]; exact hp, hnd, fun j h => ⟨(hj j h).1, (hj j h).2.1, (hj j h).2.2.1⟩⟩⟩
   simp only [racewaylaw15_walked.l0]
   rw [if_pos ht]
  ·obtain ⟨r, hr, hq⟩ := fit_run (n := n) (s := s) (t := t) (at_ := at_) (raw := raw) (w := w) hg hlen hl hm (GoodWalk l f s t) (fun F hF hFl => by
    by_cases hF0 : F.length = 0
    ·refine ⟨[], Ev.step (f := fun _ => some []) (fun k => ?_) (Ev.now _), Or.inl rfl⟩
     simp only [racewaylaw15_walked.l1]
     rw [if_neg (by omega), if_pos (by omega)]
    ·obtain ⟨d0, d1⟩ := tdiv_bounds r0 r1 (d := (w.length : Int) + 1) (by omega)
     obtain ⟨p0, p1⟩ := pk_range (c := Int.tdiv raw ((w.length : Int) + 1)) (n := (F.length : Int)) (by omega)
     obtain ⟨j, hjd⟩ : ∃ j, rd F (pk (Int.tdiv raw ((w.length : Int) + 1)) (F.length : Int)) = j := ⟨_, rfl⟩
     obtain ⟨h0, h1, h2, h3, h4⟩ := hF j (by rw [← hjd]; exact rd_mem p0 p1)
     obtain ⟨g0, g1, g2, g3, _⟩ := hg _ (rdT_mem h0 h1)
     have hcs := cntF_set (m := met) (i := ((rd_T30 l j).f1).toNat) (by omega) h3
     obtain ⟨r, hr, hq⟩ := ih (met.set ((rd_T30 l j).f1).toNat true) (rd_T30 l j).f1 (w ++ [j]) (by omega) (by rw [List.length_set]; exact hm) (by simp; omega) (Path.snoc hp h2)
      (by
       rw [List.nodup_append]
       refine ⟨hnd, by simp, fun a ha b hb => ?_⟩
       obtain rfl := List.mem_singleton.1 hb
       rintro rfl
       have := (hj a ha).2.2.2
       rw [this] at h3; cases h3)
      (fun i hi => by
       rcases List.mem_append.1 hi with hi | hi
       ·obtain ⟨q0, q1, q2, q3⟩ := hj i hi
        obtain ⟨_, _, k2, k3, _⟩ := hg _ (rdT_mem q0 q1)
        refine ⟨q0, q1, q2, ?_⟩
        rw [rdOf_set (by omega) (by omega) (by omega)]
        split
        ·rfl
        ·exact q3
       ·obtain rfl := List.mem_singleton.1 hi
        refine ⟨h0, h1, h4, ?_⟩
        rw [rdOf_set (by omega) (by omega) (by omega), if_pos rfl])
     refine ⟨r, Ev.step (fun k => ?_) hr, hq⟩
     simp only [racewaylaw15_walked.l1]
     rw [if_neg (by omega), if_neg (by omega), wrap_id (x := (w.length : Int) + 1) (by omega) (by omega), if_neg (by omega), wrap_id d0 d1, pick_eq d0 d1 (by omega)]
     simp only [Option.bind_some]
     rw [if_pos p0, if_pos p1, if_pos (by omega), hjd, if_pos h0, if_pos h1, if_pos (by omega), if_pos (by omega)]) l.length 0 [] (by omega) (fun j h => by cases h) (Nat.le_refl _)
   refine ⟨r, Ev.step (fun k => ?_) hr, hq⟩
   simp only [racewaylaw15_walked.l0]
   rw [if_neg ht]
   rfl
theorem walked_ev {n s t raw : Int} {l : List S30} {f : List Int} (R : Right n s t l) (hlen : f.length = l.length) (hraw : (Lit.int .i64 raw).wf = true) :
  ∃ w, Ev (fun k => racewaylaw15_walked.f k n s t l f raw) w ∧ GoodWalk l f s t w := by
 have hn := R.n500
 have hn2 := R.n2
 have hs1 := R.s1
 have hsn := R.sn
 have hl1 : (List.replicate (n + 1).toNat false).length = (n + 1).toNat := List.length_replicate
 have hc0 : (List.replicate (n + 1).toNat false).getD s.toNat false = false := by
  rw [List.getD_eq_getElem?_getD, List.getElem?_replicate]; split <;> rfl
 have hcs := cntF_set (m := List.replicate (n + 1).toNat false) (i := s.toNat) (by omega) hc0
 rw [cntF_replicate] at hcs
 obtain ⟨r, hr, hq⟩ := walk_run (n := n) (s := s) (t := t) (raw := raw) hraw R.arcs hlen R.len hn (cntF ((List.replicate (n + 1).toNat false).set s.toNat true)) ((List.replicate (n + 1).toNat false).set s.toNat true) s [] rfl (by simp; omega) (by simp; omega) rfl List.nodup_nil (fun j h => by cases h)
 refine ⟨r, Ev.congr (fun k => ?_) hr, hq⟩
 unfold racewaylaw15_walked.f
 rw [wrap_id (x := n + 1) (by omega) (by omega), if_pos (by omega), if_pos (by omega)]
 simp only [Option.bind_some]
 rw [if_pos (by omega), if_pos (by omega)]
def push (f : List Int) (m : Int) : List Int → List Int
 | [] => f
 | j :: w => push (f.set j.toNat (rd f j + m)) m w
theorem push_length (m : Int) : ∀ (w : List Int) (f : List Int), (push f m w).length = f.length
 | [], _ => rfl
 | j :: w, f => by rw [push, push_length m w, List.length_set]
theorem push_rd {m : Int} : ∀ {w : List Int} {f : List Int}, (∀ j ∈ w, 0 ≤ j ∧ j < (f.length : Int)) → w.Nodup → ∀ i, 0 ≤ i → rd (push f m w) i = rd f i + if i ∈ w then m else 0
 | [], f, _, _, i, _ => by simp [push]
 | j :: w, f, h, hn, i, hi => by
  obtain ⟨h0, h1⟩ := h j List.mem_cons_self
  have hj := (List.nodup_cons.1 hn).1
  rw [push, push_rd (fun k hk => by rw [List.length_set]; exact h k (List.mem_cons_of_mem _ hk)) (List.nodup_cons.1 hn).2 i hi, rd_set h0 h1 hi]
  by_cases e : j = i
  ·subst e
   rw [if_pos rfl, if_neg hj, if_pos List.mem_cons_self]; omega
  ·rw [if_neg e]
   by_cases c : i ∈ w
   ·rw [if_pos c, if_pos (List.mem_cons_of_mem _ c)]
   ·rw [if_neg c, if_neg (fun hc => by rcases List.mem_cons.1 hc with hc | hc; exact e hc.symm; exact c hc)]
theorem rd_nat {f : List Int} {j : Int} (h0 : 0 ≤ j) (h1 : j < (f.length : Int)) (h : j.toNat < f.length) : f[j.toNat] = rd f j := by
 unfold rd; rw [List.getD_eq_getElem?_getD, List.getElem?_eq_getElem h]; rfl
theorem rdT_nat {l : List S30} {j : Int} (h0 : 0 ≤ j) (h1 : j < (l.length : Int)) (h : j.toNat < l.length) : l[j.toNat] = rd_T30 l j := by
 unfold rd_T30; rw [List.getD_eq_getElem?_getD, List.getElem?_eq_getElem h]; rfl
theorem push_within {l : List S30} {m : Int} (hm : 0 ≤ m) : ∀ {w : List Int} {f : List Int}, Within l f → w.Nodup → (∀ j ∈ w, 0 ≤ j ∧ j < (l.length : Int) ∧ rd f j + m ≤ (rd_T30 l j).f2) → Within l (push f m w)
 | [], f, W, _, _ => W
 | j :: w, f, W, hn, h => by
  obtain ⟨h0, h1, h2⟩ := h j List.mem_cons_self
  have hlen := W.len
  have hj := (List.nodup_cons.1 hn).1
  have hjl : j.toNat < l.length := by omega
  have hjf : j.toNat < f.length := by omega
  have hb := W.get j.toNat hjl hjf
  rw [rd_nat h0 (by omega) hjf, rdT_nat h0 h1 hjl] at hb
  rw [push]
  refine push_within hm (W.set j.toNat _ (by omega) (fun h' => by rw [rdT_nat h0 h1 h']; exact h2)) (List.nodup_cons.1 hn).2 (fun i hi => ?_)
  obtain ⟨q0, q1, q2⟩ := h i (List.mem_cons_of_mem _ hi)
  refine ⟨q0, q1, ?_⟩
  rw [rd_set h0 (by omega) q0, if_neg (fun e => hj (by rw [e]; exact hi))]
  exact q2
theorem push_exc {l : List S30} {m v : Int} : ∀ {w : List Int} {f : List Int} {a b : Int}, Path l a w b → f.length = l.length → (∀ j ∈ w, 0 ≤ j ∧ j < (l.length : Int)) →
  exc l (push f m w) v = exc l f v + ((if b = v then m else 0) - (if a = v then m else 0))
 | [], f, a, b, hp, _, _ => by
  have : a = b := hp
  subst this
  simp only [push]; omega
 | j :: w, f, a, b, hp, hlen, h => by
  obtain ⟨h0, h1⟩ := h j List.mem_cons_self
  obtain ⟨e0, hp⟩ := hp
  have hjl : j.toNat < l.length := by omega
  have hjf : j.toNat < f.length := by omega
  rw [push, push_exc hp (by rw [List.length_set]; exact hlen) (fun i hi => h i (List.mem_cons_of_mem _ hi)), exc_set j.toNat _ v hjl hjf, rd_nat h0 (by omega) hjf, rdT_nat h0 h1 hjl, e0]
  have e : rd f j + m - rd f j = m := by omega
  rw [e]; omega
def Step (l : List S30) (s t : Int) (f g : List Int) : Prop :=
 g = f ∨ ∃ w m, 1 ≤ m ∧ Path l s w t ∧ w.Nodup ∧ (∀ j ∈ w, 0 ≤ j ∧ j < (l.length : Int) ∧ rd f j + m ≤ (rd_T30 l j).f2) ∧ g = push f m w
theorem Step.flow {n s t : Int} {l : List S30} {f g : List Int} (h : Step l s t f g) (F : IsFlow n s t l f) : IsFlow n s t l g := by
 rcases h with rfl | ⟨w, m, hm, hp, hn, hj, rfl⟩
 ·exact F
 ·refine ⟨push_within (by omega) F.within hn hj, fun v h1 h2 h3 h4 => ?_⟩
  rw [push_exc hp F.within.len (fun j h => ⟨(hj j h).1, (hj j h).2.1⟩), F.cons v h1 h2 h3 h4, if_neg (fun e => h4 e.symm), if_neg (fun e => h3 e.symm)]; rfl
theorem Step.le {n s t : Int} {l : List S30} {f g : List Int} (h : Step l s t f g) (F : IsFlow n s t l f) : ∀ i, 0 ≤ i → rd f i ≤ rd g i := by
 intro i hi
 rcases h with rfl | ⟨w, m, hm, hp, hn, hj, rfl⟩
 ·exact Int.le_refl _
 ·have hlen := F.within.len
  rw [push_rd (fun j h => ⟨(hj j h).1, by have := (hj j h).2.1; omega⟩) hn i hi]
  split <;> omega
theorem Step.value {n s t : Int} {l : List S30} {f g : List Int} (h : Step l s t f g) (F : IsFlow n s t l f) (hst : s ≠ t) : exc l f t ≤ exc l g t := by
 rcases h with rfl | ⟨w, m, hm, hp, hn, hj, rfl⟩
 ·exact Int.le_refl _
 ·rw [push_exc hp F.within.len (fun j h => ⟨(hj j h).1, (hj j h).2.1⟩), if_pos rfl, if_neg hst]; omega
theorem most_run {n s t : Int} {l : List S30} {f w : List Int} (W : Within l f) (hcap : ∀ a ∈ l, a.f2 < 1000000000000) (hj : ∀ j ∈ w, 0 ≤ j ∧ j < (l.length : Int) ∧ rd f j < (rd_T30 l j).f2) (hwl : w.length ≤ 1000000) (d : Nat) :
  ∀ (j : Nat) (m : Int), j + d = w.length → 1 ≤ m → (∀ q, q < j → ∀ h : q < w.length, rd f w[q] + m ≤ (rd_T30 l w[q]).f2) →
   ∃ m', 1 ≤ m' ∧ m' ≤ m ∧ (∀ q ∈ w, rd f q + m' ≤ (rd_T30 l q).f2) ∧ ∀ (raws : List Int) (i : Int) r, Ev (fun k => racewaylaw15_routed.l2 k raws f i w m' 0 n s t l) r → Ev (fun k => racewaylaw15_routed.l1 k raws f i w m (j : Int) n s t l) r := by
 have hlen := W.len
 induction d with
 | zero =>
  intro j m hjd hm hq
  refine ⟨m, hm, Int.le_refl _, fun q hq' => ?_, fun raws i r hr => Ev.step (fun k => ?_) hr⟩
  ·obtain ⟨p, hp, rfl⟩ := List.getElem_of_mem hq'
   exact hq p (by omega) hp
  ·simp only [racewaylaw15_routed.l1]
   rw [if_neg (by omega)]
 | succ d ih =>
  intro j m hjd hm hq
  have hjw : j < w.length := by omega
  obtain ⟨h0, h1, h2⟩ := hj w[j] (List.getElem_mem hjw)
  have hc := hcap _ (rdT_mem h0 h1)
  have hb := W.get (w[j]).toNat (by omega) (by omega)
  rw [rd_nat h0 (by omega) (by omega), rdT_nat h0 h1 (by omega)] at hb
  obtain ⟨x, hx⟩ : ∃ x, (rd_T30 l w[j]).f2 - rd f w[j] = x := ⟨_, rfl⟩
  have hmn : 1 ≤ mn m x ∧ mn m x ≤ m ∧ mn m x ≤ x := by unfold mn; split <;> omega
  obtain ⟨m', g0, g1, g2, g3⟩ := ih (j + 1) (mn m x) (by omega) hmn.1 (fun q hqj hqw => by
   by_cases e : q = j
   ·subst e; omega
   ·have := hq q (by omega) hqw; omega)
  refine ⟨m', g0, by omega, g2, fun raws i r hr => Ev.step (fun k => ?_) (g3 raws i r hr)⟩
  simp only [racewaylaw15_routed.l1]
  rw [if_pos (by omega), if_pos (by omega), rd_get hjw, if_pos h0, if_pos h1, if_pos (by omega), wrap_id (by omega) (by omega), hx, wrap_succ (by omega)]
theorem push_run {n s t m : Int} {l : List S30} {raws w : List Int} {i : Nat} (hi : i ≤ 1000) (hm : 1 ≤ m) (hm2 : m ≤ 1000000000000) (hcap : ∀ a ∈ l, a.f2 < 1000000000000) (hwl : w.length ≤ 1000000) (d : Nat) :
  ∀ (j : Nat) (f : List Int), j + d = w.length → Within l f → (w.drop j).Nodup → (∀ q ∈ w.drop j, 0 ≤ q ∧ q < (l.length : Int) ∧ rd f q + m ≤ (rd_T30 l q).f2) →
   ∀ r, Ev (fun k => racewaylaw15_routed.l0 k raws (push f m (w.drop j)) ((i + 1 : Nat) : Int) n s t l) r → Ev (fun k => racewaylaw15_routed.l2 k raws f (i : Int) w m (j : Int) n s t l) r := by
 induction d with
 | zero =>
  intro j f hjd W _ _ r hr
  rw [List.drop_of_length_le (by omega), push] at hr
  refine Ev.step (fun k => ?_) hr
  simp only [racewaylaw15_routed.l2]
  rw [if_neg (by omega), wrap_succ (by omega)]
 | succ d ih =>
  intro j f hjd W hn hq r hr
  have hjw : j < w.length := by omega
  have hlen := W.len
  rw [List.drop_eq_getElem_cons hjw] at hn hq hr
  obtain ⟨h0, h1, h2⟩ := hq w[j] List.mem_cons_self
  have hc := hcap _ (rdT_mem h0 h1)
  have hb := W.get (w[j]).toNat (by omega) (by omega)
  rw [rd_nat h0 (by omega) (by omega), rdT_nat h0 h1 (by omega)] at hb
  have hnot := (List.nodup_cons.1 hn).1
  rw [push] at hr
  refine Ev.step (fun k => ?_) (ih (j + 1) (f.set (w[j]).toNat (rd f w[j] + m)) (by omega) (W.set _ _ (by omega) (fun h' => by rw [rdT_nat h0 h1 h']; exact h2)) (List.nodup_cons.1 hn).2 (fun q hq' => by
   obtain ⟨q0, q1, q2⟩ := hq q (List.mem_cons_of_mem _ hq')
   refine ⟨q0, q1, ?_⟩
   rw [rd_set h0 (by omega) q0, if_neg (fun e => hnot (by rw [e]; exact hq'))]
   exact q2) r hr)
  simp only [racewaylaw15_routed.l2]
  rw [if_pos (by omega), if_pos (by omega), rd_get hjw, if_pos h0, if_pos (by omega), wrap_id (by omega) (by omega), wrap_succ (by omega)]
theorem nodup_bound : ∀ {k : Nat} {w : List Int}, w.Nodup → (∀ j ∈ w, 0 ≤ j ∧ j < (k : Int)) → w.length ≤ k
 | 0, [], _, _ => Nat.le_refl _
 | 0, j :: _, _, h => by have := h j List.mem_cons_self; omega
 | k + 1, w, hn, h => by
  have h1 : (w.erase (k : Int)).length ≤ k := nodup_bound (hn.erase _) (fun j hj => by
   have hjw := List.mem_of_mem_erase hj
   have := h j hjw
   have hne : j ≠ (k : Int) := fun e => by
    rw [e] at hj
    exact (List.Nodup.not_mem_erase hn) hj
   omega)
  have h2 := List.length_erase_le (a := (k : Int)) (l := w)
  have h3 : w.length ≤ (w.erase (k : Int)).length + 1 := by
   rw [List.length_erase]; split <;> omega
  omega
theorem step_ev {n s t raw : Int} {l : List S30} {f : List Int} (R : Right n s t l) (hcap : ∀ a ∈ l, a.f2 < 1000000000000) (W : Within l f) (hraw : (Lit.int .i64 raw).wf = true) :
  ∃ g, Step l s t f g ∧ ∀ (raws : List Int) (i : Nat), i < 8 → i < raws.length → rd raws (i : Int) = raw →
   ∀ r, Ev (fun k => racewaylaw15_routed.l0 k raws g ((i + 1 : Nat) : Int) n s t l) r → Ev (fun k => racewaylaw15_routed.l0 k raws f (i : Int) n s t l) r := by
 obtain ⟨w, hw, hgood⟩ := walked_ev (f := f) (raw := raw) R W.len hraw
 obtain ⟨r0, r1⟩ := wf_bounds hraw
 have p := pk_range (c := raw) (n := 30) (by omega)
 have hl := R.len
 have hwp : (∀ j ∈ w, 0 ≤ j ∧ j < (l.length : Int) ∧ rd f j < (rd_T30 l j).f2) ∧ w.Nodup := by
  rcases hgood with rfl | ⟨_, h1, h2⟩
  ·exact ⟨(fun j hj => by cases hj), List.nodup_nil⟩
  ·exact ⟨h2, h1⟩
 have hwl := nodup_bound hwp.2 (fun j hj => ⟨(hwp.1 j hj).1, (hwp.1 j hj).2.1⟩)
 obtain ⟨m, m0, m1, m2, m3⟩ := most_run (n := n) (s := s) (t := t) W hcap hwp.1 (by omega) w.length 0 (pk raw 30 + 1) (by omega) (by omega) (fun q hq => by omega)
 refine ⟨push f m w, ?_, fun raws i hi hir hrr r hr => ?_⟩
 ·rcases hgood with rfl | ⟨hp, h1, h2⟩
  ·exact Or.inl rfl
  ·exact Or.inr ⟨w, m, m0, hp, h1, fun j hj => ⟨(hwp.1 j hj).1, (hwp.1 j hj).2.1, m2 j hj⟩, rfl⟩
 ·have h2 := push_run (n := n) (s := s) (t := t) (m := m) (raws := raws) (w := w) (i := i) (by omega) m0 (by omega) hcap (by omega) w.length 0 f (by omega) W (by rw [List.drop_zero]; exact hwp.2) (by rw [List.drop_zero]; exact fun q hq => ⟨(hwp.1 q hq).1, (hwp.1 q hq).2.1, m2 q hq⟩) r (by rw [List.drop_zero]; exact hr)
  have h1 := m3 raws (i : Int) r h2
  refine Ev.step (f := fun k => racewaylaw15_routed.j1 k raws f (i : Int) true n s t l) (fun k => ?_) (Ev.step (f := fun k => (racewaylaw15_walked.f k n s t l f raw).bind fun w => (racewaylaw15_pick.f raw 30).bind fun p => racewaylaw15_routed.l1 k raws f (i : Int) w (wrap64 (p + 1)) 0 n s t l) (fun k => ?_) (Ev.bind hw (Ev.congr (fun k => ?_) h1)))
  ·simp only [racewaylaw15_routed.l0]
   rw [if_pos (by omega), decide_eq_true (by omega)]
  ·simp only [racewaylaw15_routed.j1, if_true]
   rw [if_pos (by omega), if_pos (by omega), hrr]
  ·rw [pick_eq r0 r1 (by omega)]
   simp only [Option.bind_some]
   rw [wrap_id (by omega) (by omega)]
   rfl
theorem steps_ev {n s t : Int} {l : List S30} (R : Right n s t l) (hcap : ∀ a ∈ l, a.f2 < 1000000000000) {raws : List Int} (hraws : ∀ x ∈ raws, (Lit.int .i64 x).wf = true) (d : Nat) :
  ∀ (i : Nat) (f : List Int), i + d = min raws.length 8 → IsFlow n s t l f → ∃ g, IsFlow n s t l g ∧ (∀ j, 0 ≤ j → rd f j ≤ rd g j) ∧ exc l f t ≤ exc l g t ∧ Ev (fun k => racewaylaw15_routed.l0 k raws f (i : Int) n s t l) g := by
 induction d with
 | zero =>
  intro i f hi F
  refine ⟨f, F, fun _ _ => Int.le_refl _, Int.le_refl _, ?_⟩
  refine Ev.step (f := fun k => racewaylaw15_routed.j1 k raws f (i : Int) false n s t l) (fun k => ?_) (Ev.step (f := fun _ => some f) (fun k => ?_) (Ev.now _))
  ·simp only [racewaylaw15_routed.l0]
   by_cases c : (i : Int) < (raws.length : Int)
   ·rw [if_pos c, decide_eq_false (by omega)]
   ·rw [if_neg c]
  ·simp [racewaylaw15_routed.j1]
 | succ d ih =>
  intro i f hi F
  have hir : i < raws.length := by omega
  obtain ⟨g, hs, hg⟩ := step_ev (raw := rd raws (i : Int)) R hcap F.within (hraws _ (rd_mem (by omega) (by omega)))
  obtain ⟨h, H1, H2, H3, H4⟩ := ih (i + 1) g (by omega) (hs.flow F)
  exact ⟨h, H1, fun j hj => Int.le_trans (hs.le F j hj) (H2 j hj), Int.le_trans (hs.value F R.ne) H3, hg raws i (by omega) hir rfl h H4⟩
theorem routed_ev {n s t : Int} {l : List S30} (R : Right n s t l) (hcap : ∀ a ∈ l, a.f2 < 1000000000000) {raws : List Int} (hraws : ∀ x ∈ raws, (Lit.int .i64 x).wf = true) :
  ∃ g, IsFlow n s t l g ∧ 0 ≤ exc l g t ∧ Ev (fun k => racewaylaw15_routed.f k n s t l raws) g := by
 have hl := R.len
 obtain ⟨g, h1, _, h2, h3⟩ := steps_ev R hcap hraws (min raws.length 8) 0 (List.replicate l.length 0) (by omega) (IsFlow.zeros R.arcs)
 rw [exc_zeros] at h2
 refine ⟨g, h1, h2, Ev.congr (fun k => ?_) h3⟩
 unfold racewaylaw15_routed.f
 rw [if_pos (by omega), if_pos (by omega)]
 rfl
theorem value_flow {n s t : Int} {l : List S30} {f : List Int} (R : Right n s t l) (F : IsFlow n s t l f) : Ev (fun k => flow_Value.f k n s t l f) (exc l f t, 0) := by
 obtain ⟨x, h1, h2, h3⟩ := excesses_ev R F.within
 have ht1 := R.t1
 have htn := R.tn
 unfold flow_Value.f
 refine Ev.bind (check_flow R F) ?_
 simp only [if_true]
 refine Ev.bind h1 ?_
 refine Ev.congr (fun k => ?_) (Ev.now (exc l f t, 0))
 rw [if_pos (by omega), if_pos (by omega), h3 t (by omega) htn]
theorem tracks_at2 {fr : Int → Int} {m : Nat} : ∀ (N v : Nat), v < m → ∃ x, (Go.Proofs.YtnjdjnoncoeffaaW.Mine.trAll fr m N)[v]? = some x ∧ ∀ r, (0 ≤ r ∧ r < (N : Int) ∧ (fr r).toNat = v) ↔ r ∈ x
 | 0, v, h => ⟨[], by simp [Go.Proofs.YtnjdjnoncoeffaaW.Mine.trAll, h], fun r => ⟨fun hr => by omega, fun hr => by cases hr⟩⟩
 | N + 1, v, h => by
  obtain ⟨x, hx, hr⟩ := tracks_at2 (fr := fr) (m := m) N v h
  have hl := Go.Proofs.YtnjdjnoncoeffaaW.Mine.trAll_length fr m N
  simp only [Go.Proofs.YtnjdjnoncoeffaaW.Mine.trAll, Go.Proofs.YtnjdjnoncoeffaaW.Mine.trAdd]
  by_cases c : (fr (N : Int)).toNat = v
  ·rw [c]
   have e : (Go.Proofs.YtnjdjnoncoeffaaW.Mine.trAll fr m N).getD v [] = x := by rw [List.getD_eq_getElem?_getD, hx]; rfl
   refine ⟨x ++ [(N : Int)], by rw [List.getElem?_set_self (by omega), e], fun r => ?_⟩
   rw [List.mem_append, List.mem_singleton, ← hr r]
   constructor
   ·intro h1
    by_cases c2 : r = (N : Int)
    ·exact .inr c2
    ·exact .inl ⟨h1.1, by omega, h1.2.2⟩
   ·rintro (h1 | rfl)
    ·exact ⟨h1.1, by omega, h1.2.2⟩
    ·exact ⟨by omega, by omega, c⟩
  ·refine ⟨x, by rw [List.getElem?_set_ne c]; exact hx, fun r => ?_⟩
   rw [← hr r]
   constructor
   ·intro h1
    refine ⟨h1.1, ?_, h1.2.2⟩
    by_cases c2 : r = (N : Int)
    ·subst c2; exact absurd h1.2.2 c
    ·omega
   ·intro h1
    exact ⟨h1.1, by omega, h1.2.2⟩
def InL (l : List S30) (r : Int) : Prop := 0 ≤ r ∧ r < (l.length : Int)
theorem exc_no_out {v : Int} : ∀ {l : List S30} {f : List Int}, (∀ x ∈ f, 0 ≤ x) → (∀ i (h : i < l.length) (h' : i < f.length), (l[i]).f0 = v → f[i] = 0) →
  0 ≤ exc l f v ∧ ∀ i (h : i < l.length) (h' : i < f.length), (l[i]).f1 = v → f[i] ≤ exc l f v
 | [], f, _, _ => ⟨by rw [exc_nil]; exact Int.le_refl _, fun i h => absurd h (by simp)⟩
 | _ :: _, [], _, _ => ⟨Int.le_refl _, fun i _ h' => absurd h' (by simp)⟩
 | a :: l, x :: f, hf, ho => by
  obtain ⟨h0, h1⟩ := exc_no_out (l := l) (f := f) (v := v) (fun y hy => hf y (List.mem_cons_of_mem _ hy)) (fun i h h' e => by
   have := ho (i + 1) (by simpa using h) (by simpa using h') (by simpa using e)
   simpa using this)
  have hx := hf x List.mem_cons_self
  have hz : a.f0 = v → x = 0 := fun e => ho 0 (by simp) (by simp) e
  have e0 : (if a.f0 = v then x else 0) = 0 := by
   split
   ·rename_i e; exact hz e
   ·rfl
  refine ⟨?_, fun i h h' e => ?_⟩
  ·simp only [exc, e0]
   split <;> omega
  ·simp only [exc, e0]
   cases i with
   | zero =>
    have e' : a.f1 = v := e
    rw [if_pos e']
    show x ≤ _
    omega
   | succ i =>
    have := h1 i (by simpa using h) (by simpa using h') (by simpa using e)
    show f[i]'(by simpa using h') ≤ _
    split <;> omega
theorem InL.nat {l : List S30} {r : Int} (h : InL l r) : ∃ i : Nat, r = (i : Int) ∧ i < l.length := ⟨r.toNat, by have := h.1; omega, by have := h.1; have := h.2; omega⟩
theorem out_pos {l : List S30} {f : List Int} {v : Int} (hlen : f.length = l.length) (hf : ∀ x ∈ f, 0 ≤ x) (h : exc l f v < 0 ∨ (exc l f v ≤ 0 ∧ ∃ r, InL l r ∧ (rd_T30 l r).f1 = v ∧ 0 < rd f r)) :
  ∃ r, InL l r ∧ (rd_T30 l r).f0 = v ∧ 0 < rd f r := by
 apply Classical.byContradiction
 intro hn
 have hz : ∀ i (h : i < l.length) (h' : i < f.length), (l[i]).f0 = v → f[i] = 0 := fun i h1 h2 e => by
  have hp := hf f[i] (List.getElem_mem h2)
  apply Classical.byContradiction
  intro hne
  refine hn ⟨(i : Int), ⟨by omega, by omega⟩, by rw [rdT_get h1]; exact e, by rw [rd_get h2]; omega⟩
 obtain ⟨h0, h1⟩ := exc_no_out hf hz
 rcases h with h | ⟨h, r, hr, e, hp⟩
 ·omega
 ·obtain ⟨i, rfl, hi⟩ := hr.nat
  have hi2 : i < f.length := by omega
  rw [rdT_get hi] at e
  rw [rd_get hi2] at hp
  have := h1 i hi hi2 e
  omega
def Cut (l : List S30) (m : Nat) (left : List Int) (ts : List (List Int)) : Prop :=
 ∀ v : Nat, v < m → ∃ pre x, ts[v]? = some x ∧ (dcRows l m l.length)[v]? = some (pre ++ x) ∧ ∀ r ∈ pre, rd left r ≤ 0
theorem Cut.init (l : List S30) (m : Nat) (left : List Int) : Cut l m left (dcRows l m l.length) := fun v hv => by
 obtain ⟨x, hx, _⟩ := tracks_at2 (fr := fun j => (rd_T30 l j).f0) (m := m) l.length v hv
 exact ⟨[], x, hx, hx, fun r hr => by cases hr⟩
theorem Cut.mono {l : List S30} {m : Nat} {left left1 : List Int} {ts : List (List Int)} (h : Cut l m left ts) (hle : ∀ r, 0 ≤ r → rd left1 r ≤ rd left r) : Cut l m left1 ts := fun v hv => by
 obtain ⟨pre, x, h1, h2, h3⟩ := h v hv
 obtain ⟨y, hy, hm⟩ := tracks_at2 (fr := fun j => (rd_T30 l j).f0) (m := m) l.length v hv
 refine ⟨pre, x, h1, h2, fun r hr => ?_⟩
 have e : pre ++ x = y := Option.some.inj (h2.symm.trans hy)
 have hr0 := (hm r).2 (by rw [← e]; exact List.mem_append_left _ hr)
 exact Int.le_trans (hle r hr0.1) (h3 r hr)
theorem dc_first {l : List S30} {n : Int} {m : Nat} {left : List Int} (hg : ∀ a ∈ l, GoodArc n a) (hm : (m : Int) = n + 1) {v : Int} (h1 : 1 ≤ v) (hn : v ≤ n) (ho : ∃ r, InL l r ∧ (rd_T30 l r).f0 = v ∧ 0 < rd left r) :
  ∃ a, InL l a ∧ (rd_T30 l a).f0 = v ∧ 0 < rd left a ∧ ∀ ts, Cut l m left ts → ∃ rest, (ts.getD v.toNat []).drop ((ts.getD v.toNat []).findIdx (dcHas left)) = a :: rest ∧ Cut l m left (ts.set v.toNat (a :: rest)) := by
 have hv : v.toNat < m := by omega
 obtain ⟨y, hy, hmem⟩ := tracks_at2 (fr := fun j => (rd_T30 l j).f0) (m := m) l.length v.toNat hv
 have hy : (dcRows l m l.length)[v.toNat]? = some y := hy
 have hfi : ∃ a, y.find? (dcHas left) = some a := by
  obtain ⟨r, hr, he, hp⟩ := ho
  cases hf : y.find? (dcHas left) with
  | some a => exact ⟨a, rfl⟩
  | none =>
   have hry : r ∈ y := (hmem r).1 ⟨hr.1, hr.2, by show ((rd_T30 l r).f0).toNat = _; rw [he]⟩
   have := List.find?_eq_none.1 hf r hry
   exact absurd (show dcHas left r = true from decide_eq_true hp) this
 obtain ⟨a, ha⟩ := hfi
 have hay := List.mem_of_find?_eq_some ha
 have hap : dcHas left a = true := List.find?_some ha
 have hai := (hmem a).2 hay
 have hgood := hg _ (rdT_mem hai.1 hai.2.1)
 have hav : ((rd_T30 l a).f0).toNat = v.toNat := hai.2.2
 refine ⟨a, ⟨hai.1, hai.2.1⟩, by have := hgood.1; omega, of_decide_eq_true hap, fun ts hc => ?_⟩
 obtain ⟨pre, x, hx, hx2, hpre⟩ := hc v.toNat hv
 have hyx : pre ++ x = y := Option.some.inj (hx2.symm.trans hy)
 have hxa : x.find? (dcHas left) = some a := by
  rw [← hyx, List.find?_append] at ha
  have : pre.find? (dcHas left) = none := List.find?_eq_none.2 (fun r hr => by
   have := hpre r hr
   simp [dcHas]
   omega)
  rw [this] at ha
  simpa using ha
 obtain ⟨hpa, as1, bs1, e1, hbef⟩ := List.find?_eq_some_iff_append.1 hxa
 have hidx : x.findIdx (dcHas left) = as1.length := by
  rw [e1]
  clear e1 hxa hx2 hyx hx
  induction as1 with
  | nil => rw [List.nil_append, List.findIdx_cons, hpa]; rfl
  | cons b as1 ih =>
   have hb := hbef b List.mem_cons_self
   have hb' : dcHas left b = false := by simpa using hb
   rw [List.cons_append, List.findIdx_cons, hb', ih (fun c hc => hbef c (List.mem_cons_of_mem _ hc))]
   rfl
 have hgd : ts.getD v.toNat [] = x := by rw [List.getD_eq_getElem?_getD, hx]; rfl
 refine ⟨bs1, ?_, ?_⟩
 ·rw [hgd, hidx, e1, List.drop_left]
 ·intro u hu
  by_cases c : u = v.toNat
  ·subst c
   refine ⟨pre ++ as1, a :: bs1, ?_, ?_, fun r hr => ?_⟩
   ·rw [List.getElem?_set_self (List.getElem?_eq_some_iff.1 hx).1]
   ·rw [hx2, e1, List.append_assoc]
   ·rcases List.mem_append.1 hr with hr | hr
    ·exact hpre r hr
    ·have := hbef r hr
     simp [dcHas] at this
     omega
  ·obtain ⟨pre', x', k1, k2, k3⟩ := hc u hu
   exact ⟨pre', x', by rw [List.getElem?_set_ne (fun e => c e.symm)]; exact k1, k2, k3⟩
theorem Path.drop {l : List S30} : ∀ {w : List Int} {u v : Int} (i : Nat) (h : i < w.length), Path l u w v → Path l (rd_T30 l w[i]).f0 (w.drop i) v
 | [], _, _, i, h, _ => absurd h (by simp)
 | j :: w, u, v, 0, _, hp => ⟨rfl, hp.2⟩
 | j :: w, u, v, i + 1, h, hp => by
  have h' : i < w.length := by simpa using h
  exact Path.drop i h' hp.2
structure WalkOk (l : List S30) (left : List Int) (u0 fin kind : Int) (k : Int) (w : List Int) : Prop where
 ne : w ≠ []
 rng : ∀ r ∈ w, InL l r ∧ 0 < rd left r
 nod : (w.map fun r => (rd_T30 l r).f0).Nodup
 end_ : (k = kind ∧ Path l u0 w fin ∧ fin ∉ w.map fun r => (rd_T30 l r).f0) ∨ (k = 99 ∧ ∃ u, Path l u w u)
theorem peel_walk {n fin kind u0 : Int} {m : Nat} {l : List S30} {left : List Int} (hg : ∀ a ∈ l, GoodArc n a) (hn : n ≤ 500) (hm : (m : Int) = n + 1) (live : ∀ v, v ≠ fin → (∃ r, InL l r ∧ (rd_T30 l r).f1 = v ∧ 0 < rd left r) → ∃ r, InL l r ∧ (rd_T30 l r).f0 = v ∧ 0 < rd left r) (c : Nat) :
  ∀ (at_ : Int) (xs : List Int), 1 ≤ at_ → at_ ≤ n → (xs.length : Int) + c = n + 1 → Path l u0 xs at_ → (∀ r ∈ xs, InL l r ∧ 0 < rd left r) → ((xs.map fun r => (rd_T30 l r).f0) ++ [at_]).Nodup → (fin ∉ (xs.map fun r => (rd_T30 l r).f0) ++ [at_]) →
   (∃ r, InL l r ∧ (rd_T30 l r).f0 = at_ ∧ 0 < rd left r) →
   ∃ k w, WalkOk l left u0 fin kind k w ∧ ∀ ts K, Cut l m left ts → c ≤ K → ∃ ts', dcWalk l left fin kind K ts at_ xs ((xs.map fun r => (rd_T30 l r).f0) ++ [at_]) = some (k, w, ts') ∧ Cut l m left ts' := by
 induction c with
 | zero =>
  intro at_ xs h1 h2 hc _ hr hnod _ _
  have hb := nodup_bound (k := m) hnod (fun j hj => by
   rcases List.mem_append.1 hj with hj | hj
   ·obtain ⟨r, hrx, rfl⟩ := List.mem_map.1 hj
    have hgd := hg _ (rdT_mem (hr r hrx).1.1 (hr r hrx).1.2)
    exact ⟨by have := hgd.1; omega, by have := hgd.2.1; omega⟩
   ·have := List.mem_singleton.1 hj
    omega)
  rw [List.length_append, List.length_map, List.length_singleton] at hb
  omega
 | succ c ih =>
  intro at_ xs h1 h2 hc hp hr hnod hfin ho
  obtain ⟨a, hai, hat, hap, hts⟩ := dc_first (m := m) hg hm h1 h2 ho
  have hgd := hg _ (rdT_mem hai.1 hai.2)
  have hp2 := hp.snoc hat
  have hmap : (xs ++ [a]).map (fun r => (rd_T30 l r).f0) = (xs.map fun r => (rd_T30 l r).f0) ++ [at_] := by rw [List.map_append, List.map_singleton, hat]
  have hr2 : ∀ r ∈ xs ++ [a], InL l r ∧ 0 < rd left r := fun r hr' => by
   rcases List.mem_append.1 hr' with h | h
   ·exact hr r h
   ·rw [List.mem_singleton.1 h]; exact ⟨hai, hap⟩
  have hxl : xs.length ≤ 1000000 := by omega
  obtain ⟨met, hmet⟩ : ∃ met, (xs.map fun r => (rd_T30 l r).f0) ++ [at_] = met := ⟨_, rfl⟩
  have hml : met.length = xs.length + 1 := by rw [← hmet, List.length_append, List.length_map, List.length_singleton]
  rw [hmet] at hnod hfin hmap ⊢
  by_cases c1 : (rd_T30 l a).f1 = fin
  ·refine ⟨kind, xs ++ [a], ⟨by simp, hr2, by rw [hmap]; exact hnod, Or.inl ⟨rfl, by rw [← c1]; exact hp2, by rw [hmap]; exact hfin⟩⟩, fun ts K hcut hK => ?_⟩
   obtain ⟨rest, hd, hc2⟩ := hts ts hcut
   obtain ⟨K', rfl⟩ : ∃ K', K = K' + 1 := ⟨K - 1, by omega⟩
   refine ⟨_, ?_, hc2⟩
   rw [dcWalk, hd]
   simp only
   rw [if_pos hxl, if_pos c1]
  ·by_cases c2 : met.findIdx (fun v => decide (v = (rd_T30 l a).f1)) < met.length
   ·obtain ⟨i, hi⟩ : ∃ i, met.findIdx (fun v => decide (v = (rd_T30 l a).f1)) = i := ⟨_, rfl⟩
    have hmi : met[i]? = some (rd_T30 l a).f1 := by
     have h_ := List.findIdx_getElem (w := c2)
     have h_2 := of_decide_eq_true h_
     rw [List.getElem?_eq_getElem (by omega)]
     subst hi
     rw [h_2]
    rw [hi] at c2
    have hil : i < (xs ++ [a]).length := by rw [List.length_append, List.length_singleton]; omega
    have hst : (rd_T30 l (xs ++ [a])[i]).f0 = (rd_T30 l a).f1 := by
     have h_ : ((xs ++ [a]).map (fun r => (rd_T30 l r).f0))[i]? = some (rd_T30 l (xs ++ [a])[i]).f0 := by rw [List.getElem?_map, List.getElem?_eq_getElem hil]; rfl
     rw [hmap, hmi] at h_
     exact (Option.some.inj h_).symm
    have hpd := hp2.drop i hil
    rw [hst] at hpd
    refine ⟨99, (xs ++ [a]).drop i, ⟨fun e => ?_, fun r hr' => hr2 r (List.mem_of_mem_drop hr'), ?_, Or.inr ⟨rfl, _, hpd⟩⟩, fun ts K hcut hK => ?_⟩
    ·have := congrArg List.length e
     rw [List.length_drop] at this
     simp at this
     simp at hil
     omega
    ·rw [List.map_drop, hmap]
     exact hnod.sublist (List.drop_sublist _ _)
    ·obtain ⟨rest, hd, hc2⟩ := hts ts hcut
     obtain ⟨K', rfl⟩ : ∃ K', K = K' + 1 := ⟨K - 1, by omega⟩
     refine ⟨_, ?_, hc2⟩
     rw [dcWalk, hd]
     simp only
     rw [if_pos hxl, if_neg c1, hi, if_pos c2]
   ·have hnm : (rd_T30 l a).f1 ∉ met := fun hmem => c2 (List.findIdx_lt_length_of_exists ⟨_, hmem, decide_eq_true rfl⟩)
    have hlive := live _ c1 ⟨a, hai, rfl, hap⟩
    have hg2 := hgd.2.2
    obtain ⟨k, w, hw, hrun⟩ := ih (rd_T30 l a).f1 (xs ++ [a]) hg2.1 hg2.2.1 (by rw [List.length_append, List.length_singleton]; omega) hp2 hr2
     (by rw [hmap]; exact List.nodup_append.2 ⟨hnod, List.nodup_cons.2 ⟨by simp, List.nodup_nil⟩, fun x hx y hy e => by rw [List.mem_singleton.1 hy] at e; rw [e] at hx; exact hnm hx⟩)
     (by rw [hmap]; intro hf; rcases List.mem_append.1 hf with hf | hf; exact hfin hf; exact c1 (List.mem_singleton.1 hf).symm) hlive
    refine ⟨k, w, hw, fun ts K hcut hK => ?_⟩
    obtain ⟨rest, hd, hc2⟩ := hts ts hcut
    obtain ⟨K', rfl⟩ : ∃ K', K = K' + 1 := ⟨K - 1, by omega⟩
    obtain ⟨ts', h1', h2'⟩ := hrun _ K' hc2 (by omega)
    refine ⟨ts', ?_, h2'⟩
    rw [hmap] at h1'
    rw [dcWalk, hd]
    simp only
    rw [if_pos hxl, if_neg c1, if_neg c2]
    exact h1'
theorem dcMost_le : ∀ (xs left : List Int) (a : Int), dcMost left xs a ≤ a ∧ (∀ r ∈ xs, dcMost left xs a ≤ rd left r) ∧ (dcMost left xs a = a ∨ ∃ r ∈ xs, dcMost left xs a = rd left r)
 | [], _, a => ⟨Int.le_refl _, (fun r h => by cases h), Or.inl rfl⟩
 | x :: xs, left, a => by
  rw [dcMost]
  by_cases c : rd left x < a
  ·rw [if_pos c]
   obtain ⟨h1, h2, h3⟩ := dcMost_le xs left (rd left x)
   refine ⟨by omega, fun r hr => ?_, Or.inr ?_⟩
   ·rcases List.mem_cons.1 hr with rfl | hr
    ·exact h1
    ·exact h2 r hr
   ·rcases h3 with h3 | ⟨r, hr, h3⟩
    ·exact ⟨x, List.mem_cons_self, h3⟩
    ·exact ⟨r, List.mem_cons_of_mem _ hr, h3⟩
  ·rw [if_neg c]
   obtain ⟨h1, h2, h3⟩ := dcMost_le xs left a
   refine ⟨h1, fun r hr => ?_, ?_⟩
   ·rcases List.mem_cons.1 hr with rfl | hr
    ·clear h2 h3; omega
    ·exact h2 r hr
   ·rcases h3 with h3 | ⟨r, hr, h3⟩
    ·exact Or.inl h3
    ·exact Or.inr ⟨r, List.mem_cons_of_mem _ hr, h3⟩
theorem dcPour_push {am : Int} (h0 : 0 ≤ am) : ∀ (w f : List Int), (∀ j ∈ w, 0 ≤ j ∧ j < (f.length : Int) ∧ am ≤ rd f j ∧ rd f j ≤ 4611686018427387903) → w.Nodup → dcPour am w f = push f (-am) w
 | [], _, _, _ => rfl
 | j :: w, f, h, hn => by
  obtain ⟨q0, q1, q2, q3⟩ := h j List.mem_cons_self
  have hj := (List.nodup_cons.1 hn).1
  have hw : wrap64 (rd f j - am) = rd f j + -am := by rw [wrap_id (by omega) (by omega)]; omega
  rw [dcPour, push, hw]
  refine dcPour_push h0 w _ (fun i hi => ?_) (List.nodup_cons.1 hn).2
  obtain ⟨p0, p1, p2, p3⟩ := h i (List.mem_cons_of_mem _ hi)
  have e : rd (f.set j.toNat (rd f j + -am)) i = rd f i := by rw [rd_set q0 q1 p0, if_neg (fun e => hj (by rw [e]; exact hi))]
  exact ⟨p0, by rw [List.length_set]; exact p1, by rw [e]; exact p2, by rw [e]; exact p3⟩
structure Peel1 (s t : Int) (l : List S30) (left : List Int) (value : Int) (it : S36) (left1 : List Int) (value1 : Int) : Prop where
 ne : it.f1 ≠ []
 rng : ∀ r ∈ it.f1, InL l r ∧ it.f2 ≤ rd left r
 am : 1 ≤ it.f2
 nod : (it.f1.map fun r => (rd_T30 l r).f0).Nodup
 kind : (it.f0 = 112 ∧ 0 < value ∧ Path l s it.f1 t ∧ (t ∉ it.f1.map fun r => (rd_T30 l r).f0) ∧ value1 = value - it.f2 ∧ 0 ≤ value1) ∨
  (it.f0 = 98 ∧ value < 0 ∧ Path l t it.f1 s ∧ (s ∉ it.f1.map fun r => (rd_T30 l r).f0) ∧ value1 = value + it.f2 ∧ value1 ≤ 0) ∨
  (it.f0 = 99 ∧ (∃ u, Path l u it.f1 u) ∧ value1 = value)
 left1e : left1 = push left (-it.f2) it.f1
 emp : (∃ r ∈ it.f1, rd left r = it.f2) ∨ (it.f0 ≠ 99 ∧ value1 = 0)
structure Vf (n s t : Int) (l : List S30) (left : List Int) (value : Int) : Prop where
 flow : IsFlow n s t l left
 vt : exc l left t = value
 vs : exc l left s = -value
theorem nodup_of_map {α β : Type} (f : α → β) : ∀ {w : List α}, (w.map f).Nodup → w.Nodup
 | [], _ => List.nodup_nil
 | a :: w, h => by
  rw [List.map_cons] at h
  obtain ⟨h1, h2⟩ := List.nodup_cons.1 h
  exact List.nodup_cons.2 ⟨fun hm => h1 (List.mem_map_of_mem hm), nodup_of_map f h2⟩
theorem rd_nonneg {f : List Int} (h : ∀ x ∈ f, 0 ≤ x) (r : Int) : 0 ≤ rd f r := by
 unfold rd
 rw [List.getD_eq_getElem?_getD]
 cases e : f[r.toNat]? with
 | none => exact Int.le_refl _
 | some x => exact h x (List.mem_of_getElem? e)
theorem rd_sum : ∀ {f : List Int} {i : Nat}, (∀ x ∈ f, 0 ≤ x) → (h : i < f.length) → f[i] ≤ sumL f
 | [], _, _, h => absurd h (by simp)
 | x :: f, 0, hf, _ => by
  have := sumL_nonneg (g := f) (fun y hy => hf y (List.mem_cons_of_mem _ hy))
  simp only [List.getElem_cons_zero, sumL]
  omega
 | x :: f, i + 1, hf, h => by
  have h1 := rd_sum (f := f) (i := i) (fun y hy => hf y (List.mem_cons_of_mem _ hy)) (by simpa using h)
  have := hf x List.mem_cons_self
  simp only [List.getElem_cons_succ, sumL]
  omega
theorem Vf.big {n s t : Int} {l : List S30} {left : List Int} {value : Int} (R : Right n s t l) (V : Vf n s t l left value) : (∀ r, 0 ≤ rd left r ∧ rd left r ≤ 4611686018427387903) ∧ -4611686018427387903 ≤ value ∧ value ≤ 4611686018427387903 := by
 have hs := V.flow.within.sum
 have hR := R.sum
 have hb := exc_bound (l := l) V.flow.within.nonneg t
 have hv := V.vt
 refine ⟨fun r => ⟨rd_nonneg V.flow.within.nonneg r, ?_⟩, by omega, by omega⟩
 unfold rd
 rw [List.getD_eq_getElem?_getD]
 cases e : left[r.toNat]? with
 | none => show (0 : Int) ≤ _; omega
 | some x =>
  obtain ⟨h1, h2⟩ := List.getElem?_eq_some_iff.1 e
  have := rd_sum V.flow.within.nonneg h1
  rw [h2] at this
  show x ≤ _
  omega
theorem Peel1.vf {n s t : Int} {l : List S30} {left left1 : List Int} {value value1 : Int} {it : S36} (R : Right n s t l) (V : Vf n s t l left value) (P : Peel1 s t l left value it left1 value1) : Vf n s t l left1 value1 := by
 have hlen := V.flow.within.len
 have hin : ∀ j ∈ it.f1, 0 ≤ j ∧ j < (l.length : Int) := fun j hj => (P.rng j hj).1
 have hin2 : ∀ j ∈ it.f1, 0 ≤ j ∧ j < (left.length : Int) := fun j hj => by rw [hlen]; exact hin j hj
 have hnd := nodup_of_map _ P.nod
 have hst := R.ne
 have hw : Within l left1 := by
  rw [P.left1e]
  refine Within.of (by rw [push_length]; exact hlen) (fun i h h' => ?_)
  have h'' : i < left.length := by rw [hlen]; exact h
  have hb := V.flow.within.get i h h''
  have e := push_rd hin2 hnd (m := -it.f2) (i : Int) (by omega)
  rw [rd_get h', rd_get h''] at e
  rw [e]
  split
  ·rename_i hm
   have := (P.rng _ hm).2
   rw [rd_get h''] at this
   have := P.am
   omega
  ·omega
 have hex : ∀ {a b : Int}, Path l a it.f1 b → ∀ v, exc l left1 v = exc l left v + ((if b = v then -it.f2 else 0) - (if a = v then -it.f2 else 0)) := fun hp v => by
  rw [P.left1e]
  exact push_exc hp hlen hin
 have h1 := V.vt
 have h2 := V.vs
 rcases P.kind with ⟨_, _, hp, _, hv, _⟩ | ⟨_, _, hp, _, hv, _⟩ | ⟨_, ⟨u, hp⟩, hv⟩
 ·refine ⟨⟨hw, fun v q1 q2 q3 q4 => ?_⟩, ?_, ?_⟩
  ·rw [hex hp, V.flow.cons v q1 q2 q3 q4, if_neg (fun e => q4 e.symm), if_neg (fun e => q3 e.symm)]; rfl
  ·rw [hex hp, if_pos rfl, if_neg hst]; omega
  ·rw [hex hp, if_neg (fun e => hst e.symm), if_pos rfl]; omega
 ·refine ⟨⟨hw, fun v q1 q2 q3 q4 => ?_⟩, ?_, ?_⟩
  ·rw [hex hp, V.flow.cons v q1 q2 q3 q4, if_neg (fun e => q3 e.symm), if_neg (fun e => q4 e.symm)]; rfl
  ·rw [hex hp, if_neg hst, if_pos rfl]; omega
  ·rw [hex hp, if_pos rfl, if_neg (fun e => hst e.symm)]; omega
 ·have e : ∀ v, exc l left1 v = exc l left v := fun v => by rw [hex hp]; omega
  exact ⟨⟨hw, fun v q1 q2 q3 q4 => by rw [e]; exact V.flow.cons v q1 q2 q3 q4⟩, by rw [e, hv]; exact h1, by rw [e, hv]; exact h2⟩
theorem Peel1.le {n s t : Int} {l : List S30} {left left1 : List Int} {value value1 : Int} {it : S36} (V : Vf n s t l left value) (P : Peel1 s t l left value it left1 value1) : ∀ r, 0 ≤ r → rd left1 r = rd left r + (if r ∈ it.f1 then -it.f2 else 0) := fun r hr => by
 rw [P.left1e]
 exact push_rd (fun j hj => by rw [V.flow.within.len]; exact (P.rng j hj).1) (nodup_of_map _ P.nod) r hr
theorem dcIxP_spec {f : List Int} (h : ∃ r : Nat, r < f.length ∧ 0 < rd f (r : Int)) : dcIxP f < f.length ∧ 0 < rd f ((dcIxP f : Nat) : Int) := by
 obtain ⟨r, hr, hp⟩ := h
 have hlt : dcIxP f < f.length := List.findIdx_lt_length_of_exists ⟨f[r], List.getElem_mem hr, by rw [rd_get hr] at hp; exact decide_eq_true hp⟩
 refine ⟨hlt, ?_⟩
 rw [rd_get hlt]
 exact of_decide_eq_true (List.findIdx_getElem (w := hlt))
theorem peel_take {n s t : Int} {m : Nat} {l : List S30} {left : List Int} {value : Int} (R : Right n s t l) (hm : (m : Int) = n + 1) (V : Vf n s t l left value) (hpos : ∃ r : Nat, r < left.length ∧ 0 < rd left (r : Int)) :
  ∃ it left1 value1, Peel1 s t l left value it left1 value1 ∧ ∀ ts K, Cut l m left ts → m ≤ K → ∃ ts', dcTake l left s t value ((dcIxP left : Nat) : Int) K ts = some (it, left1, value1, ts') ∧ Cut l m left1 ts' := by
 obtain ⟨hbig, hv1, hv2⟩ := V.big R
 have hlen := V.flow.within.len
 have hnn := V.flow.within.nonneg
 have hn := R.n500
 obtain ⟨hix, hixp⟩ := dcIxP_spec hpos
 have hin0 : InL l ((dcIxP left : Nat) : Int) := ⟨by omega, by rw [← hlen]; omega⟩
 -- the walk
 have hwalk : ∃ k w fin u0, WalkOk l left u0 fin (if 0 < value then 112 else if value < 0 then 98 else 99) k w ∧ ((0 < value ∧ u0 = s ∧ fin = t) ∨ (value < 0 ∧ u0 = t ∧ fin = s) ∨ (value = 0 ∧ fin = 0)) ∧
   ∀ ts K, Cut l m left ts → m ≤ K → ∃ ts', dcItem l left s t value ((dcIxP left : Nat) : Int) K ts = some (k, w, ts') ∧ Cut l m left ts' := by
  by_cases c1 : 0 < value
  ·obtain ⟨k, w, hw, hrun⟩ := peel_walk (u0 := s) (fin := t) (kind := 112) R.arcs hn hm (fun v hv hi => by
     by_cases e : v = s
     ·subst e; exact out_pos hlen hnn (Or.inl (by have := V.vs; omega))
     ·obtain ⟨r, hr, hr1, hr2⟩ := hi
      have hg := R.arcs _ (rdT_mem hr.1 hr.2)
      rw [← hr1] at hv e ⊢
      exact out_pos hlen hnn (Or.inr ⟨by rw [V.flow.cons _ hg.2.2.1 hg.2.2.2.1 e hv]; exact Int.le_refl _, r, hr, rfl, hr2⟩)) m s [] R.s1 R.sn (by simp; omega) rfl (fun r h => by cases h) (by simp) (by simp; exact fun e => R.ne e.symm) (out_pos hlen hnn (Or.inl (by have := V.vs; omega)))
   refine ⟨k, w, t, s, by rw [if_pos c1]; exact hw, Or.inl ⟨c1, rfl, rfl⟩, fun ts K h1 h2 => ?_⟩
   unfold dcItem
   rw [if_pos c1]
   exact hrun ts K h1 h2
  ·by_cases c2 : value < 0
   ·obtain ⟨k, w, hw, hrun⟩ := peel_walk (u0 := t) (fin := s) (kind := 98) R.arcs hn hm (fun v hv hi => by
      by_cases e : v = t
      ·subst e; exact out_pos hlen hnn (Or.inl (by have := V.vt; omega))
      ·obtain ⟨r, hr, hr1, hr2⟩ := hi
       have hg := R.arcs _ (rdT_mem hr.1 hr.2)
       rw [← hr1] at hv e ⊢
       exact out_pos hlen hnn (Or.inr ⟨by rw [V.flow.cons _ hg.2.2.1 hg.2.2.2.1 hv e]; exact Int.le_refl _, r, hr, rfl, hr2⟩)) m t [] R.t1 R.tn (by simp; omega) rfl (fun r h => by cases h) (by simp) (by simp; exact R.ne) (out_pos hlen hnn (Or.inl (by have := V.vt; omega)))
    refine ⟨k, w, s, t, by rw [if_neg c1, if_pos c2]; exact hw, Or.inr (Or.inl ⟨c2, rfl, rfl⟩), fun ts K h1 h2 => ?_⟩
    unfold dcItem
    rw [if_neg c1, if_pos c2]
    exact hrun ts K h1 h2
   ·have hg0 := R.arcs _ (rdT_mem hin0.1 hin0.2)
    have hv0 : value = 0 := by omega
    obtain ⟨k, w, hw, hrun⟩ := peel_walk (u0 := (rd_T30 l ((dcIxP left : Nat) : Int)).f0) (fin := 0) (kind := 99) R.arcs hn hm (fun v hv hi => by
      obtain ⟨r, hr, hr1, hr2⟩ := hi
      have hg := R.arcs _ (rdT_mem hr.1 hr.2)
      refine out_pos hlen hnn (Or.inr ⟨?_, r, hr, hr1, hr2⟩)
      by_cases e1 : v = s
      ·rw [e1, V.vs]; omega
      ·by_cases e2 : v = t
       ·rw [e2, V.vt]; omega
       ·rw [V.flow.cons v (by rw [← hr1]; exact hg.2.2.1) (by rw [← hr1]; exact hg.2.2.2.1) e1 e2]; exact Int.le_refl _) m _ [] hg0.1 hg0.2.1 (by simp; omega) rfl (fun r h => by cases h) (by simp) (by simp; have := hg0.1; omega) ⟨_, hin0, rfl, hixp⟩
    refine ⟨k, w, 0, _, by rw [if_neg c1, if_neg c2]; exact hw, Or.inr (Or.inr ⟨hv0, rfl⟩), fun ts K h1 h2 => ?_⟩
    unfold dcItem
    rw [if_neg c1, if_neg c2]
    exact hrun ts K h1 h2
 obtain ⟨k, w, fin, u0, hw, hcase, hrun⟩ := hwalk
 have hnd := nodup_of_map _ hw.nod
 -- the amount
 obtain ⟨a0, ha0⟩ : ∃ a0, (if k = 99 then rd left (rd w 0) else if value < wrap64 (-value) then wrap64 (-value) else value) = a0 := ⟨_, rfl⟩
 have ham : dcAm left value k w = dcMost left w a0 := by unfold dcAm; rw [ha0]
 obtain ⟨m1, m2, m3⟩ := dcMost_le w left a0
 have hwv : wrap64 (-value) = -value := wrap_id (by omega) (by omega)
 have hw0 : ∃ r, w = r :: w.drop 1 := by
  cases hh : w with
  | nil => exact absurd hh hw.ne
  | cons r w' => exact ⟨r, rfl⟩
 obtain ⟨r0, hr0⟩ := hw0
 have hrd0 : rd w 0 = r0 := by rw [hr0]; rfl
 have hr0m : r0 ∈ w := by rw [hr0]; exact List.mem_cons_self
 have hk : (k = 112 ∧ 0 < value ∧ Path l s w t ∧ (t ∉ w.map fun r => (rd_T30 l r).f0) ∧ a0 = value) ∨ (k = 98 ∧ value < 0 ∧ Path l t w s ∧ (s ∉ w.map fun r => (rd_T30 l r).f0) ∧ a0 = -value) ∨ (k = 99 ∧ (∃ u, Path l u w u) ∧ a0 = rd left r0) := by
  rcases hw.end_ with ⟨e1, e2, e3⟩ | ⟨e1, e2⟩
  ·rcases hcase with ⟨d1, rfl, rfl⟩ | ⟨d1, rfl, rfl⟩ | ⟨d1, rfl⟩
   ·rw [if_pos d1] at e1
    refine Or.inl ⟨e1, d1, e2, e3, ?_⟩
    rw [← ha0, e1, if_neg (by decide), hwv, if_neg (by omega)]
   ·rw [if_neg (by omega), if_pos d1] at e1
    refine Or.inr (Or.inl ⟨e1, d1, e2, e3, ?_⟩)
    rw [← ha0, e1, if_neg (by decide), hwv, if_pos (by omega)]
   ·exfalso
    have hlast : ∀ (w' : List Int) (u : Int), w' ≠ [] → Path l u w' 0 → (∀ r ∈ w', InL l r) → False := by
     intro w'
     induction w' with
     | nil => intro u h; exact absurd rfl h
     | cons r w' ih =>
      intro u _ hp hr
      by_cases hne : w' = []
      ·subst hne
       have hg := R.arcs _ (rdT_mem (hr r List.mem_cons_self).1 (hr r List.mem_cons_self).2)
       have h0 : (rd_T30 l r).f1 = 0 := hp.2
       have := hg.2.2.1
       omega
      ·exact ih _ hne hp.2 (fun q hq => hr q (List.mem_cons_of_mem _ hq))
    exact hlast w _ hw.ne e2 (fun r hr => (hw.rng r hr).1)
  ·refine Or.inr (Or.inr ⟨e1, e2, ?_⟩)
   rw [← ha0, if_pos e1, hrd0]
 have ha1 : 1 ≤ a0 := by
  rcases hk with ⟨_, h, _, _, e⟩ | ⟨_, h, _, _, e⟩ | ⟨_, _, e⟩
  ·omega
  ·omega
  ·have := (hw.rng r0 hr0m).2; omega
 have ham1 : 1 ≤ dcMost left w a0 := by
  rcases m3 with e | ⟨r, hr, e⟩
  ·omega
  ·have := (hw.rng r hr).2; omega
 have hpour : dcPour (dcMost left w a0) w left = push left (-(dcMost left w a0)) w := dcPour_push (by omega) w left (fun j hj => ⟨(hw.rng j hj).1.1, by rw [hlen]; exact (hw.rng j hj).1.2, m2 j hj, (hbig j).2⟩) hnd
 obtain ⟨am, ham2⟩ : ∃ am, dcMost left w a0 = am := ⟨_, rfl⟩
 rw [ham2] at m1 m2 m3 ham ham1 hpour
 have hdv : (k = 112 → dcVal value k am = value - am) ∧ (k = 98 → dcVal value k am = value + am) ∧ (k = 99 → dcVal value k am = value) := by
  have hb : am ≤ 4611686018427387903 := by have := m2 r0 hr0m; have := (hbig r0).2; omega
  refine ⟨fun e => ?_, fun e => ?_, fun e => ?_⟩
  ·unfold dcVal; rw [if_pos e, wrap_id (by omega) (by omega)]
  ·unfold dcVal; rw [if_neg (by omega), if_pos e, wrap_id (by omega) (by omega)]
  ·unfold dcVal; rw [if_neg (by omega), if_neg (by omega)]
 refine ⟨⟨k, w, am⟩, push left (-am) w, dcVal value k am, ⟨hw.ne, fun r hr => ⟨(hw.rng r hr).1, m2 r hr⟩, ham1, hw.nod, ?_, rfl, ?_⟩, fun ts K hc hK => ?_⟩
 ·rcases hk with ⟨e, h1, h2, h3, h4⟩ | ⟨e, h1, h2, h3, h4⟩ | ⟨e, h1, h2⟩
  ·exact Or.inl ⟨e, h1, h2, h3, hdv.1 e, by show 0 ≤ dcVal value k am; rw [hdv.1 e]; omega⟩
  ·exact Or.inr (Or.inl ⟨e, h1, h2, h3, hdv.2.1 e, by show dcVal value k am ≤ 0; rw [hdv.2.1 e]; omega⟩)
  ·exact Or.inr (Or.inr ⟨e, h1, hdv.2.2 e⟩)
 ·rcases m3 with e3 | ⟨r, hr, e3⟩
  ·rcases hk with ⟨e, h1, h2, h3, h4⟩ | ⟨e, h1, h2, h3, h4⟩ | ⟨e, h1, h2⟩
   ·exact Or.inr ⟨by show k ≠ 99; omega, by show dcVal value k am = 0; rw [hdv.1 e]; omega⟩
   ·exact Or.inr ⟨by show k ≠ 99; omega, by show dcVal value k am = 0; rw [hdv.2.1 e]; omega⟩
   ·exact Or.inl ⟨r0, hr0m, by show rd left r0 = am; omega⟩
  ·exact Or.inl ⟨r, hr, e3.symm⟩
 ·obtain ⟨ts', h1, h2⟩ := hrun ts K hc hK
  have hwl : w.length ≤ 2000000 := by
   have := nodup_bound (k := l.length) hnd (fun j hj => (hw.rng j hj).1)
   have := R.len
   omega
  refine ⟨ts', ?_, h2.mono (fun r hr => ?_)⟩
  ·unfold dcTake
   rw [h1]
   simp only [Option.bind_some]
   rw [if_neg (fun e => hw.ne (List.eq_nil_of_length_eq_zero e)), if_pos ⟨List.all_eq_true.2 (fun r hr => decide_eq_true ⟨(hw.rng r hr).1.1, by rw [hlen]; exact (hw.rng r hr).1.2⟩), hwl⟩, ham, hpour]
  ·rw [push_rd (fun j hj => by rw [hlen]; exact (hw.rng j hj).1) hnd r hr]
   split <;> omega
def cntP (f : List Int) : Nat := f.countP (fun x => decide (0 < x))
theorem cntP_le : ∀ {f g : List Int}, g.length = f.length → (∀ i (h : i < f.length) (h' : i < g.length), g[i] ≤ f[i]) → cntP g ≤ cntP f
 | [], [], _, _ => Nat.le_refl _
 | [], _ :: _, h, _ => by simp at h
 | _ :: _, [], h, _ => by simp at h
 | x :: f, y :: g, hl, h => by
  have h0 : y ≤ x := h 0 (by simp) (by simp)
  have ih := cntP_le (f := f) (g := g) (by simpa using hl) (fun i h1 h2 => by have := h (i + 1) (by simpa using h1) (by simpa using h2); simpa using this)
  unfold cntP at *
  rw [List.countP_cons, List.countP_cons]
  by_cases c : 0 < y
  ·rw [if_pos (decide_eq_true c), if_pos (decide_eq_true (by omega))]; omega
  ·rw [if_neg (by simpa using c)]; omega
theorem cntP_lt : ∀ {f g : List Int} {j : Nat}, g.length = f.length → (∀ i (h : i < f.length) (h' : i < g.length), g[i] ≤ f[i]) → (∃ (h : j < f.length) (h' : j < g.length), 0 < f[j] ∧ g[j] ≤ 0) → cntP g + 1 ≤ cntP f
 | [], _, _, _, _, ⟨h, _⟩ => absurd h (by simp)
 | _ :: _, [], _, hl, _, _ => by simp at hl
 | x :: f, y :: g, 0, hl, h, ⟨_, _, hx, hy⟩ => by
  have hx : 0 < x := hx
  have hy : y ≤ 0 := hy
  have ih := cntP_le (f := f) (g := g) (by simpa using hl) (fun i h1 h2 => by have := h (i + 1) (by simpa using h1) (by simpa using h2); simpa using this)
  unfold cntP at *
  rw [List.countP_cons, List.countP_cons, if_pos (decide_eq_true hx), if_neg (by simp; omega)]
  omega
 | x :: f, y :: g, j + 1, hl, h, ⟨h1, h2, hx, hy⟩ => by
  have h0 : y ≤ x := h 0 (by simp) (by simp)
  have ih := cntP_lt (f := f) (g := g) (j := j) (by simpa using hl) (fun i h1 h2 => by have := h (i + 1) (by simpa using h1) (by simpa using h2); simpa using this) ⟨by simpa using h1, by simpa using h2, by simpa using hx, by simpa using hy⟩
  unfold cntP at *
  rw [List.countP_cons, List.countP_cons]
  by_cases c : 0 < y
  ·rw [if_pos (decide_eq_true c), if_pos (decide_eq_true (by omega))]; omega
  ·rw [if_neg (by simpa using c)]; omega
theorem cntP_len (f : List Int) : cntP f ≤ f.length := List.countP_le_length
inductive Peel (n s t : Int) (l : List S30) (m : Nat) : List Int → Int → List S36 → Prop
 | done {left : List Int} : (∀ r : Int, rd left r ≤ 0) → Peel n s t l m left 0 []
 | step {left left1 : List Int} {value value1 : Int} {it : S36} {its : List S36} : (∃ r : Nat, r < left.length ∧ 0 < rd left (r : Int)) → Vf n s t l left value → Peel1 s t l left value it left1 value1 →
   (∀ ts K, Cut l m left ts → m ≤ K → ∃ ts', dcTake l left s t value ((dcIxP left : Nat) : Int) K ts = some (it, left1, value1, ts') ∧ Cut l m left1 ts') → Vf n s t l left1 value1 → Peel n s t l m left1 value1 its → Peel n s t l m left value (it :: its)
def Nz (v : Int) : Nat := if v = 0 then 0 else 1
theorem Peel1.less {n s t : Int} {l : List S30} {left left1 : List Int} {value value1 : Int} {it : S36} (V : Vf n s t l left value) (V1 : Vf n s t l left1 value1) (P : Peel1 s t l left value it left1 value1) :
  cntP left1 ≤ cntP left ∧ ((∃ r ∈ it.f1, rd left r = it.f2) → cntP left1 + 1 ≤ cntP left) ∧ cntP left1 + Nz value1 + 1 ≤ cntP left + Nz value := by
 have hl := V.flow.within.len
 have hl1 := V1.flow.within.len
 have hle : ∀ i (h : i < left.length) (h' : i < left1.length), left1[i] ≤ left[i] := fun i h h' => by
  have e := P.le V (i : Int) (by omega)
  rw [rd_get h, rd_get h'] at e
  have := P.am
  split at e <;> omega
 have h1 := cntP_le (by omega) hle
 have h2 : (∃ r ∈ it.f1, rd left r = it.f2) → cntP left1 + 1 ≤ cntP left := fun ⟨r, hr, he⟩ => by
  obtain ⟨j, rfl, hj⟩ := (P.rng r hr).1.nat
  have hj1 : j < left.length := by omega
  have hj2 : j < left1.length := by omega
  have e := P.le V (j : Int) (by omega)
  rw [if_pos hr, he, rd_get hj2] at e
  rw [rd_get hj1] at he
  have := P.am
  exact cntP_lt (by omega) hle ⟨hj1, hj2, by omega, by omega⟩
 refine ⟨h1, h2, ?_⟩
 have hz : value = 0 → value1 = 0 := fun e => by
  rcases P.kind with ⟨_, h, _⟩ | ⟨_, h, _⟩ | ⟨_, _, h⟩
  ·omega
  ·omega
  ·omega
 unfold Nz
 rcases P.emp with h | ⟨hk, h⟩
 ·have := h2 h
  by_cases c : value = 0
  ·rw [if_pos c, if_pos (hz c)]; omega
  ·rw [if_neg c]; split <;> omega
 ·rw [if_pos h]
  rcases P.kind with ⟨_, h, _⟩ | ⟨_, h, _⟩ | ⟨h, _⟩
  ·rw [if_neg (by omega)]; omega
  ·rw [if_neg (by omega)]; omega
  ·exact absurd h hk
theorem peel_all {n s t : Int} {m : Nat} {l : List S30} (R : Right n s t l) (hm : (m : Int) = n + 1) (M : Nat) : ∀ (left : List Int) (value : Int), Vf n s t l left value → cntP left + Nz value ≤ M → ∃ its, Peel n s t l m left value its := by
 induction M with
 | zero =>
  intro left value V hM
  refine ⟨[], ?_⟩
  have hv : value = 0 := by
   unfold Nz at hM
   by_cases c : value = 0
   ·exact c
   ·rw [if_neg c] at hM; omega
  subst hv
  refine Peel.done (fun r => ?_)
  apply Classical.byContradiction
  intro hn
  have hin : ∃ x ∈ left, 0 < x := by
   unfold rd at hn
   rw [List.getD_eq_getElem?_getD] at hn
   cases e : left[r.toNat]? with
   | none => rw [e] at hn; exact absurd (Int.le_refl _) hn
   | some x => rw [e] at hn; exact ⟨x, List.mem_of_getElem? e, by simpa using hn⟩
  obtain ⟨x, hx, hp⟩ := hin
  have : 0 < cntP left := List.countP_pos_iff.2 ⟨x, hx, decide_eq_true hp⟩
  omega
 | succ M ih =>
  intro left value V hM
  by_cases hpos : ∃ r : Nat, r < left.length ∧ 0 < rd left (r : Int)
  ·obtain ⟨it, left1, value1, P, htake⟩ := peel_take R hm V hpos
   have V1 := P.vf R V
   have := (P.less V V1).2.2
   obtain ⟨its, hits⟩ := ih left1 value1 V1 (by omega)
   exact ⟨_, Peel.step hpos V P htake V1 hits⟩
  ·have hz : ∀ r : Int, rd left r ≤ 0 := fun r => by
    apply Classical.byContradiction
    intro hn
    unfold rd at hn
    rw [List.getD_eq_getElem?_getD] at hn
    cases e : left[r.toNat]? with
    | none => rw [e] at hn; exact absurd (Int.le_refl _) hn
    | some x =>
     obtain ⟨h1, h2⟩ := List.getElem?_eq_some_iff.1 e
     rw [e] at hn
     refine hpos ⟨r.toNat, h1, ?_⟩
     rw [rd_get h1, h2]
     simpa using hn
   have hv : value = 0 := by
    have h0 : exc l left t = 0 := by
     obtain ⟨a1, _⟩ := exc_no_out (l := l) (f := left) (v := t) V.flow.within.nonneg (fun i h h' _ => by
      have h1 := hz (i : Int)
      rw [rd_get h'] at h1
      have := V.flow.within.nonneg _ (List.getElem_mem h')
      omega)
     obtain ⟨b1, _⟩ := exc_no_out (l := l) (f := left) (v := s) V.flow.within.nonneg (fun i h h' _ => by
      have h1 := hz (i : Int)
      rw [rd_get h'] at h1
      have := V.flow.within.nonneg _ (List.getElem_mem h')
      omega)
     have h1 := V.vt
     have h2 := V.vs
     omega
    rw [← V.vt]
    exact h0
   subst hv
   exact ⟨[], Peel.done hz⟩
theorem Peel.few {n s t : Int} {l : List S30} {m : Nat} {left : List Int} {value : Int} {its : List S36} (h : Peel n s t l m left value its) : its.length ≤ cntP left + Nz value := by
 induction h with
 | done _ => simp
 | step _ V P _ V1 _ ih =>
  have := (P.less V V1).2.2
  rw [List.length_cons]
  omega
theorem dcIxP_none {f : List Int} (h : ∀ r : Int, rd f r ≤ 0) : dcIxP f = f.length := by
 unfold dcIxP
 refine List.findIdx_eq_length_of_false (fun x hx => ?_)
 obtain ⟨i, hi, rfl⟩ := List.getElem_of_mem hx
 have := h (i : Int)
 rw [rd_get hi] at this
 exact decide_eq_false (by omega)
theorem dcIxP_skip : ∀ {f : List Int} {first : Nat}, first ≤ f.length → (∀ i (h : i < f.length), i < first → f[i] ≤ 0) → first + dcIxP (f.drop first) = dcIxP f
 | f, 0, _, _ => by rw [List.drop_zero, Nat.zero_add]
 | [], _ + 1, h, _ => by simp at h
 | x :: f, first + 1, hf, h => by
  have h0 : x ≤ 0 := h 0 (by simp) (by omega)
  have ih := dcIxP_skip (f := f) (first := first) (by simpa using hf) (fun i h1 h2 => by have := h (i + 1) (by simpa using h1) (by omega); simpa using this)
  rw [List.drop_succ_cons]
  have e : dcIxP (x :: f) = dcIxP f + 1 := by
   unfold dcIxP
   rw [List.findIdx_cons, decide_eq_false (by omega)]
   rfl
  rw [e, ← ih]
  omega
theorem dcIxP_before {f : List Int} (i : Nat) (h : i < f.length) (hi : i < dcIxP f) : f[i] ≤ 0 := by
 have := List.not_of_lt_findIdx hi
 simp at this
 exact this
theorem peel_run {n s t : Int} {l : List S30} {m : Nat} {left : List Int} {value : Int} {its : List S36} (h : Peel n s t l m left value its) :
  ∀ (K fuel first : Nat) (ts : List (List Int)) (out : List S36), m ≤ K → its.length + 1 ≤ fuel → first ≤ left.length → (∀ i (h : i < left.length), i < first → left[i] ≤ 0) → Cut l m left ts → out.length + its.length ≤ 1000000 →
   dcRun l s t K fuel left value first ts out = some (out ++ its) := by
 induction h with
 | done hz =>
  intro K fuel first ts out hK hf h1 h2 hc ho
  obtain ⟨f, rfl⟩ : ∃ f, fuel = f + 1 := ⟨fuel - 1, by omega⟩
  rw [dcRun, dcIxP_skip h1 h2, dcIxP_none hz, if_neg (by omega), List.append_nil]
 | @step left left1 value value1 it its hpos V P htake V1 _ ih =>
  intro K fuel first ts out hK hf h1 h2 hc ho
  rw [List.length_cons] at hf ho
  obtain ⟨f, rfl⟩ : ∃ f, fuel = f + 1 := ⟨fuel - 1, by omega⟩
  obtain ⟨ts', e1, hc'⟩ := htake ts K hc hK
  have hix := dcIxP_spec hpos
  have hl := V.flow.within.len
  have hl1 := V1.flow.within.len
  rw [dcRun, dcIxP_skip h1 h2, if_pos hix.1, if_pos (by omega), e1]
  simp only [Option.bind_some]
  rw [ih K f (dcIxP left) ts' (out ++ [it]) hK (by omega) (by omega) (fun i h hi => by
   have h' : i < left.length := by omega
   have e := P.le V (i : Int) (by omega)
   rw [rd_get h, rd_get h'] at e
   have hb := dcIxP_before i h' hi
   have := P.am
   split at e <;> omega) hc' (by rw [List.length_append, List.length_singleton]; omega), List.append_assoc]
  rfl
theorem peel_split {n s t : Int} {l : List S30} {m : Nat} {left : List Int} {value : Int} {its : List S36} (R : Right n s t l) (hm : (m : Int) = n + 1) (V : Vf n s t l left value) (h : Peel n s t l m left value its) : Ev (fun k => decomp_Split.f k n s t l left) (its, 0) := by
 have hlen := V.flow.within.len
 have hn2 := R.n2
 have hn := R.n500
 have hl := R.len
 have hs1 := R.s1
 have hsn := R.sn
 have ht1 := R.t1
 have htn := R.tn
 have hv := value_flow R V.flow
 rw [V.vt] at hv
 have hfew := h.few
 have hcn := cntP_len left
 have hnz : Nz value ≤ 1 := by unfold Nz; split <;> omega
 unfold decomp_Split.f
 refine Ev.bind hv ?_
 have hfit : dcFit n s t l left = true := by
  unfold dcFit
  rw [Bool.and_eq_true]
  refine ⟨decide_eq_true ⟨by omega, by omega, by omega, by omega, by omega, by omega, by omega, by omega⟩, List.all_eq_true.2 (fun a ha => decide_eq_true ?_)⟩
  have g := R.arcs a ha
  exact ⟨by have := g.1; omega, g.2.1, by have := g.2.2.1; omega, g.2.2.2.1⟩
 simp only [if_true, hfit]
 have e : (n + 1).toNat = m := by omega
 rw [e]
 have hrun : Ev (fun k => dcRun l s t k k left value 0 (dcRows l m l.length) []) its := ⟨m + its.length + 1, fun k hk => by
  have h_ := peel_run h k k 0 (dcRows l m l.length) [] (by omega) (by omega) (Nat.zero_le _) (fun i _ h => absurd h (by omega)) (Cut.init l m left) (by simp; omega)
  rw [List.nil_append] at h_
  exact h_⟩
 refine Ev.bind hrun ?_
 exact Ev.now _
theorem dcGo_path {l : List S30} : ∀ {w : List Int} {u v : Int} (more : Bool) (last : Int) (met : List Int), w ≠ [] → (more = true → last = u) → Path l u w v → (∀ r ∈ w, InL l r) → (met ++ w.map fun r => (rd_T30 l r).f0).Nodup →
  dcGo l w more last met = some (v, met ++ w.map fun r => (rd_T30 l r).f0)
 | [], _, _, _, _, _, h, _, _, _, _ => absurd rfl h
 | a :: w, u, v, more, last, met, _, hl, hp, hr, hn => by
  have ha := hr a List.mem_cons_self
  have hn' : ((met ++ [(rd_T30 l a).f0]) ++ w.map fun r => (rd_T30 l r).f0).Nodup := by
   rw [List.append_assoc]
   exact hn
  have hnm : (rd_T30 l a).f0 ∉ met := fun hm => by
   have := (List.nodup_append.1 hn).2.2 _ hm _ (by rw [List.map_cons]; exact List.mem_cons_self)
   exact this rfl
  rw [dcGo, if_neg (by have := ha.1; omega), if_neg (by have := ha.2; omega), if_neg (fun e => e.2 (by rw [hl e.1]; exact hp.1)), if_neg hnm]
  by_cases hw : w = []
  ·subst hw
   rw [dcGo]
   have hv : (rd_T30 l a).f1 = v := hp.2
   rw [hv]
   rfl
  ·rw [dcGo_path true _ _ hw (fun _ => rfl) hp.2 (fun r hr' => hr r (List.mem_cons_of_mem _ hr')) hn', List.append_assoc]
   rfl
theorem peel_right {n s t : Int} {l : List S30} {left left1 : List Int} {value value1 : Int} {it : S36} (R : Right n s t l) (P : Peel1 s t l left value it left1 value1) : decomp_right.f n s t l it.f0 it.f1 it.f2 = some true := by
 have hin : ∀ r ∈ it.f1, InL l r := fun r hr => (P.rng r hr).1
 have hlen : it.f1.length ≤ 1000000 := by
  have := nodup_bound (k := l.length) (nodup_of_map _ P.nod) hin
  have := R.len
  omega
 have hn5 := R.n500
 have hsz : dcSized l it.f1 = true := by
  unfold dcSized
  rw [Bool.and_eq_true]
  refine ⟨decide_eq_true hlen, List.all_eq_true.2 (fun a ha => decide_eq_true ?_)⟩
  have g := R.arcs a ha
  have g1 := g.1
  have g2 := g.2.1
  have g3 := g.2.2.1
  have g4 := g.2.2.2.1
  exact ⟨by omega, by omega, by omega, by omega⟩
 have ham := P.am
 have hne := P.ne
 have hlen0 : ¬ it.f1.length = 0 := fun e => hne (List.eq_nil_of_length_eq_zero e)
 have hnod : ([] ++ it.f1.map fun r => (rd_T30 l r).f0).Nodup := P.nod
 have hfirst : ∀ {u v : Int}, Path l u it.f1 v → (rd_T30 l (rd it.f1 0)).f0 = u := fun {u v} hp => by
  cases hh : it.f1 with
  | nil => exact absurd hh hne
  | cons a w => rw [hh] at hp; exact hp.1
 unfold decomp_right.f
 rw [if_pos hsz]
 unfold dcRight
 rw [if_neg (by omega), if_neg hlen0]
 rcases P.kind with ⟨e, _, hp, hnt, _⟩ | ⟨e, _, hp, hnt, _⟩ | ⟨e, ⟨u, hp⟩, _⟩
 ·rw [dcGo_path false 0 [] hne (fun h => by cases h) hp hin hnod]
  unfold dcFin
  simp only
  rw [if_pos e, decide_eq_true ⟨hfirst hp, by trivial, hnt⟩]
 ·rw [dcGo_path false 0 [] hne (fun h => by cases h) hp hin hnod]
  unfold dcFin
  simp only
  rw [if_neg (by omega), if_pos e, decide_eq_true ⟨hfirst hp, by trivial, hnt⟩]
 ·rw [dcGo_path false 0 [] hne (fun h => by cases h) hp hin hnod]
  unfold dcFin
  simp only
  rw [if_neg (by omega), if_neg (by omega), if_pos e, decide_eq_true (hfirst hp)]
def tot (its : List S36) (r : Int) : Int :=
 match its with
 | [] => 0
 | it :: its => (if r ∈ it.f1 then it.f2 else 0) + tot its r
structure ItOk (n s t : Int) (l : List S30) (it : S36) : Prop where
 right : decomp_right.f n s t l it.f0 it.f1 it.f2 = some true
 rng : ∀ r ∈ it.f1, InL l r
 nod : it.f1.Nodup
 am : 1 ≤ it.f2
theorem peel_tot {n s t : Int} {l : List S30} {m : Nat} {left : List Int} {value : Int} {its : List S36} (R : Right n s t l) (h : Peel n s t l m left value its) : (∀ x ∈ left, 0 ≤ x) → (∀ r, 0 ≤ r → rd left r = tot its r) ∧ ∀ it ∈ its, ItOk n s t l it := by
 induction h with
 | done hz =>
  intro hnn
  exact ⟨fun r _ => by have h1 := hz r; have h2 := rd_nonneg hnn r; show rd _ r = 0; omega, fun it h => by cases h⟩
 | step _ V P _ V1 _ ih =>
  intro _
  obtain ⟨h1, h2⟩ := ih V1.flow.within.nonneg
  refine ⟨fun r hr => ?_, fun it hit => ?_⟩
  ·have e := P.le V r hr
   rw [h1 r hr] at e
   show _ = (if r ∈ _ then _ else 0) + tot _ r
   rw [e]
   split <;> omega
  ·rcases List.mem_cons.1 hit with rfl | hit
   ·exact ⟨peel_right R P, fun r hr => (P.rng r hr).1, nodup_of_map _ P.nod, P.am⟩
   ·exact h2 it hit
theorem tot_nonneg {n s t : Int} {l : List S30} : ∀ {its : List S36}, (∀ it ∈ its, ItOk n s t l it) → ∀ r, 0 ≤ tot its r
 | [], _, _ => Int.le_refl _
 | it :: its, h, r => by
  have h1 := tot_nonneg (its := its) (fun x hx => h x (List.mem_cons_of_mem _ hx)) r
  have h2 := (h it List.mem_cons_self).am
  show 0 ≤ (if r ∈ it.f1 then it.f2 else 0) + tot its r
  split <;> omega
theorem rdI_get {its : List S36} {i : Nat} (h : i < its.length) : rd_T36 its (i : Int) = its[i] := by simp [rd_T36, h]
theorem sum_l0 {n s t : Int} {l : List S30} {its : List S36} {res : List Int × Int} (hits : ∀ it ∈ its, ItOk n s t l it) (hl : its.length ≤ 1000000) (hll : l.length ≤ 2000) (hres : Ev (fun k => decomp_Sum.l1 k (List.replicate l.length 0) its (its.length : Int) 0 n s t l) res) (d : Nat) :
  ∀ i : Nat, i + d = its.length → Ev (fun k => decomp_Sum.l0 k its its (its.length : Int) (i : Int) n s t l) res := by
 induction d with
 | zero =>
  intro i hi
  refine Ev.step (fun k => ?_) hres
  simp only [decomp_Sum.l0]
  rw [if_neg (by omega), if_pos (by omega), if_pos (by omega)]
  rfl
 | succ d ih =>
  intro i hi
  have hil : i < its.length := by omega
  have hr := (hits its[i] (List.getElem_mem hil)).right
  refine Ev.step (fun k => ?_) (ih (i + 1) (by omega))
  simp only [decomp_Sum.l0]
  rw [if_pos (by omega), if_pos (by omega), if_pos (by omega), rdI_get hil, hr]
  simp only [Option.bind_some, if_true]
  rw [wrap_succ (by omega)]
theorem sum_l12 {n s t : Int} {l : List S30} {its : List S36} {g : List Int} (hits : ∀ it ∈ its, ItOk n s t l it) (hl : its.length ≤ 1000000) (hll : l.length ≤ 2000) (hgl : g.length = l.length)
  (hg : ∀ r, InL l r → 0 ≤ rd g r ∧ rd g r ≤ (rd_T30 l r).f2 ∧ (rd_T30 l r).f2 ≤ 4611686018427387903) (d : Nat) :
  ∀ (i : Nat) (out : List Int), i + d = its.length → out.length = l.length → (∀ r, InL l r → 0 ≤ rd out r ∧ rd out r + tot (its.drop i) r = rd g r) →
   Ev (fun k => decomp_Sum.l1 k out its (its.length : Int) (i : Int) n s t l) (g, 0) := by
 induction d with
 | zero =>
  intro i out hi ho hr
  have e : out = g := by
   refine List.ext_getElem (by omega) (fun j h1 h2 => ?_)
   have h3 := (hr (j : Int) ⟨by omega, by omega⟩).2
   rw [List.drop_of_length_le (by omega)] at h3
   rw [rd_get h1, rd_get h2] at h3
   have h4 : out[j] + 0 = g[j] := h3
   omega
  subst e
  refine Ev.step (f := fun _ => some (out, 0)) (fun k => ?_) (Ev.now _)
  simp only [decomp_Sum.l1]
  rw [if_neg (by omega)]
 | succ d ih =>
  intro i out hi ho hr
  have hil : i < its.length := by omega
  have hok := hits its[i] (List.getElem_mem hil)
  have hal : its[i].f1.length ≤ 2000 := by
   have := nodup_bound (k := l.length) hok.nod hok.rng
   omega
  have hdr : its.drop i = its[i] :: its.drop (i + 1) := List.drop_eq_getElem_cons hil
  have hinner : ∀ (e j : Nat) (o : List Int), j + e = its[i].f1.length → o.length = l.length → (∀ r, InL l r → 0 ≤ rd o r ∧ rd o r + ((if r ∈ its[i].f1.drop j then its[i].f2 else 0) + tot (its.drop (i + 1)) r) = rd g r) →
    Ev (fun k => decomp_Sum.l2 k o its (its.length : Int) (i : Int) its[i].f1 (its[i].f1.length : Int) (j : Int) n s t l its[i].f0 its[i].f1 its[i].f2) (g, 0) := by
   intro e
   induction e with
   | zero =>
    intro j o hj ho hro
    have hnext := ih (i + 1) o (by omega) ho (fun r hr' => by
     have h_ := hro r hr'
     rw [List.drop_of_length_le (show its[i].f1.length ≤ j by omega), if_neg (by simp)] at h_
     exact ⟨h_.1, by omega⟩)
    refine Ev.step (fun k => ?_) hnext
    simp only [decomp_Sum.l2]
    rw [if_neg (by omega), wrap_succ (by omega)]
   | succ e ihe =>
    intro j o hj ho hro
    have hjl : j < its[i].f1.length := by omega
    obtain ⟨a, ha⟩ : ∃ a, its[i].f1[j] = a := ⟨_, rfl⟩
    have hdj : its[i].f1.drop j = a :: its[i].f1.drop (j + 1) := by rw [← ha]; exact List.drop_eq_getElem_cons hjl
    have hain : InL l a := by rw [← ha]; exact hok.rng _ (List.getElem_mem hjl)
    have hnda : a ∉ its[i].f1.drop (j + 1) := by
     have h_ := hok.nod.sublist (List.drop_sublist j its[i].f1)
     rw [hdj] at h_
     exact (List.nodup_cons.1 h_).1
    have hra := hro a hain
    rw [hdj, if_pos List.mem_cons_self] at hra
    have hga := hg a hain
    have htn := tot_nonneg (its := its.drop (i + 1)) (fun x hx => hits x (List.mem_of_mem_drop hx)) a
    have ham := hok.am
    have hrd : rd its[i].f1 (j : Int) = a := by rw [rd_get hjl, ha]
    have w1 : wrap64 ((rd_T30 l a).f2 - rd o a) = (rd_T30 l a).f2 - rd o a := wrap_id (by omega) (by omega)
    have w2 : wrap64 (rd o a + its[i].f2) = rd o a + its[i].f2 := wrap_id (by omega) (by omega)
    have hnext := ihe (j + 1) (o.set a.toNat (rd o a + its[i].f2)) (by omega) (by rw [List.length_set]; exact ho) (fun r hr' => by
     have h_ := hro r hr'
     rw [hdj] at h_
     rw [rd_set hain.1 (by have := hain.2; omega) hr'.1]
     by_cases c : a = r
     ·subst c
      rw [if_pos List.mem_cons_self] at h_
      rw [if_pos rfl, if_neg hnda]
      exact ⟨by omega, by omega⟩
     ·rw [if_neg c]
      have e_ : (if r ∈ a :: its[i].f1.drop (j + 1) then its[i].f2 else 0) = (if r ∈ its[i].f1.drop (j + 1) then its[i].f2 else 0) := by
       by_cases c2 : r ∈ its[i].f1.drop (j + 1)
       ·rw [if_pos c2, if_pos (List.mem_cons_of_mem _ c2)]
       ·rw [if_neg c2, if_neg (fun h => by rcases List.mem_cons.1 h with h | h; exact c h.symm; exact c2 h)]
      rw [e_] at h_
      exact h_)
    have q1 := hain.1
    have q2 := hain.2
    refine Ev.step (fun k => ?_) hnext
    simp only [decomp_Sum.l2]
    rw [if_pos (by omega), if_pos (by omega), if_pos (by omega), hrd, if_pos q1, if_pos q2, if_pos (by omega), w1, if_neg (by omega), w2, wrap_succ (by omega)]
  have hin0 := hinner its[i].f1.length 0 out (by omega) ho (fun r hr' => by
   have h_ := hr r hr'
   rw [hdr] at h_
   exact h_)
  refine Ev.step (fun k => ?_) hin0
  simp only [decomp_Sum.l1]
  rw [if_pos (by omega), if_pos (by omega), if_pos (by omega), rdI_get hil]
  rfl
theorem rd_rep (m : Nat) (r : Int) : rd (List.replicate m 0) r = 0 := rd_replicate m r
theorem cap_big {n s t : Int} {l : List S30} (R : Right n s t l) {r : Int} (h : InL l r) : (rd_T30 l r).f2 ≤ 4611686018427387903 := by
 have hs := R.sum
 have hm := rdT_mem h.1 h.2
 have : ∀ (q : List S30), (∀ a ∈ q, GoodArc n a) → ∀ a ∈ q, a.f2 ≤ sumCap q := by
  intro q
  induction q with
  | nil => intro _ a ha; cases ha
  | cons b q ih =>
   intro hq a ha
   have h1 := sumCap_nonneg (n := n) (l := q) (fun x hx => hq x (List.mem_cons_of_mem _ hx))
   have h2 := (hq b List.mem_cons_self).2.2.2.2
   rcases List.mem_cons.1 ha with rfl | ha
   ·simp only [sumCap]; omega
   ·have := ih (fun x hx => hq x (List.mem_cons_of_mem _ hx)) a ha
    simp only [sumCap]; omega
 have := this l R.arcs _ hm
 omega
theorem sum_ev {n s t : Int} {l : List S30} {its : List S36} {g : List Int} (R : Right n s t l) (W : Within l g) (hits : ∀ it ∈ its, ItOk n s t l it) (hl : its.length ≤ 1000000) (ht : ∀ r, 0 ≤ r → rd g r = tot its r) : Ev (fun k => decomp_Sum.f k n s t l its) (g, 0) := by
 have hlen := W.len
 have hll := R.len
 have h2 := sum_l12 (g := g) hits hl hll hlen (fun r hr => by
  obtain ⟨i, rfl, hi⟩ := hr.nat
  have hb := W.get i hi (by omega)
  have hc := cap_big R hr
  rw [rdT_get hi] at hc ⊢
  rw [rd_get (by omega)]
  exact ⟨hb.1, hb.2, hc⟩) its.length 0 (List.replicate l.length 0) (by omega) (List.length_replicate ..) (fun r hr => by
  rw [rd_rep, List.drop_zero, ht r hr.1]
  exact ⟨Int.le_refl _, by omega⟩)
 have h1 := sum_l0 hits hl hll h2 its.length 0 (by omega)
 unfold decomp_Sum.f
 rw [R.check]
 simp only [Option.bind_some, if_true]
 exact h1
theorem ends_zero {n s t : Int} {l : List S30} {f : List Int} (R : Right n s t l) (F : IsFlow n s t l f) : exc l f s = -exc l f t := by
 have n2 := R.n2
 have hn : ((n.toNat : Nat) : Int) = n := by omega
 have h0 := exc_total (l := l) (f := f) (n := n.toNat) (by rw [hn]; exact R.arcs)
 have hst := R.ne
 have e : sumTo (exc l f) n.toNat = sumTo (fun v => (if s = v then exc l f s else 0) + (if t = v then exc l f t else 0)) n.toNat := sumTo_ext (fun v h1 h2 => by
  by_cases c1 : s = v
  ·subst c1
   rw [if_pos rfl, if_neg (fun e => hst e.symm)]; omega
  ·by_cases c2 : t = v
   ·subst c2
    rw [if_neg c1, if_pos rfl]; omega
   ·rw [if_neg c1, if_neg c2, F.cons v h1 (by omega) (fun e => c1 e.symm) (fun e => c2 e.symm)]; rfl)
 have s1 := R.s1
 have sn := R.sn
 have t1 := R.t1
 have tn := R.tn
 rw [e, sumTo_add, sumTo_one s _ s1 (by omega), sumTo_one t _ t1 (by omega)] at h0
 omega
theorem same_loop {a b : List Int} (hl : a.length = b.length) (hm : a.length ≤ 1000000) (d : Nat) : ∀ i : Nat, i + d = a.length → Ev (fun k => racewayref5_Same.l0 k a b (i : Int)) (decide (a.drop i = b.drop i)) := by
 induction d with
 | zero =>
  intro i hi
  refine Ev.step (f := fun _ => some (decide (a.drop i = b.drop i))) (fun k => ?_) (Ev.now _)
  simp only [racewayref5_Same.l0]
  rw [if_neg (by omega), List.drop_of_length_le (by omega), List.drop_of_length_le (by omega)]
  simp
 | succ d ih =>
  intro i hi
  have hia : i < a.length := by omega
  have hib : i < b.length := by omega
  by_cases c : a[i] = b[i]
  ·have e : decide (a.drop i = b.drop i) = decide (a.drop (i + 1) = b.drop (i + 1)) := by
    have e3 : (a.drop i = b.drop i) ↔ (a.drop (i + 1) = b.drop (i + 1)) := by
     rw [List.drop_eq_getElem_cons hia, List.drop_eq_getElem_cons hib, c]
     exact ⟨fun h => (List.cons.inj h).2, fun h => by rw [h]⟩
    exact decide_eq_decide.2 e3
   rw [e]
   refine Ev.step (fun k => ?_) (ih (i + 1) (by omega))
   simp only [racewayref5_Same.l0]
   rw [if_pos (by omega), if_pos (by omega), if_pos (by omega), rd_get hia, rd_get hib, if_pos c, wrap_id (by omega) (by omega)]
   rfl
  ·have e : decide (a.drop i = b.drop i) = false := by
    refine decide_eq_false (fun h => c ?_)
    rw [List.drop_eq_getElem_cons hia, List.drop_eq_getElem_cons hib] at h
    exact (List.cons.inj h).1
   rw [e]
   refine Ev.step (f := fun _ => some false) (fun k => ?_) (Ev.now _)
   simp only [racewayref5_Same.l0]
   rw [if_pos (by omega), if_pos (by omega), if_pos (by omega), rd_get hia, rd_get hib, if_neg c]
theorem same_ev (a b : List Int) (hm : a.length ≤ 1000000) : Ev (fun k => racewayref5_Same.f k a b) (decide (a = b)) := by
 by_cases hl : a.length = b.length
 ·have := same_loop hl hm a.length 0 (by omega)
  rw [List.drop_zero, List.drop_zero] at this
  refine Ev.congr (fun k => ?_) this
  unfold racewayref5_Same.f
  rw [if_pos (by omega)]
  rfl
 ·have e : decide (a = b) = false := decide_eq_false (fun h => hl (by rw [h]))
  rw [e]
  refine Ev.congr (fun k => ?_) (Ev.now _)
  unfold racewayref5_Same.f
  rw [if_neg (by omega)]
theorem shown15_ev : Ev (fun k => racewaylaw15_shown.f k) true := Ev.of (fun k => racewaylaw15_shown.mono k) (k := 30) (by decide +kernel)
end Go.Proofs.Ytnjdjnoncoeffaa.Pure
