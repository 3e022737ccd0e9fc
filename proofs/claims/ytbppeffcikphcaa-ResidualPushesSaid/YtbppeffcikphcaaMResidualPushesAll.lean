/- Plain lists and numbers, for the law ResidualPushes: no program and no memory. -/
import Derived.Test.YtbppeffcikphcaaPResidualPushesx0
import Derived.Test.YtbppeffcikphcaaPResidualPushesx1
import Derived.Test.YtbppeffcikphcaaPResidualPushesx3
import Derived.Test.YtbppeffcikphcaaPResidualPushesx4
import Derived.Test.YtbppeffcikphcaaPResidualPushesx5
import Derived.Test.YtbppeffcikphcaaPResidualPushesx6
import Derived.Test.YtbppeffcikphcaaPResidualPushesx7
import Derived.Test.YtbppeffcikphcaaPResidualPushesx8
import Derived.Test.YtbppeffcikphcaaPResidualPushesx9
import Derived.Test.YtbppeffcikphcaaPResidualPushesx10
import Derived.Test.YtbppeffcikphcaaPResidualPushesx11
import Derived.Test.YtbppeffcikphcaaPResidualPushesx12
import Derived.Test.YtbppeffcikphcaaPResidualPushesx13
import Derived.Test.YtbppeffcikphcaaPResidualPushesx14
import Derived.Test.YtbppeffcikphcaaPResidualPushesx15
import Derived.Test.YtbppeffcikphcaaPResidualPushesx16
import Derived.Test.YtbppeffcikphcaaPResidualPushesx17
import Derived.Lib.RabinKarpLaws
set_option linter.unusedVariables false
namespace Go.Proofs.Ytbppeffcikphcaa.Pure
open Go.RowKit Go.Proofs.Ytbppeffcikphcaa.PResidualPushes Go.Proofs.YtbppeffcikphcaaW.PrintWords Go.Proofs.YtbppeffcikphcaaW.PrintLast
theorem wrap_id {x : Int} (h0 : -9223372036854775808 ≤ x) (h1 : x ≤ 9223372036854775807) : wrap64 x = x := by unfold wrap64; omega
/-- An arc between nodes 1 to n, of no capacity below 0. -/
def GoodArc (n : Int) (a : S49) : Prop := 1 ≤ a.f0 ∧ a.f0 ≤ n ∧ 1 ≤ a.f1 ∧ a.f1 ≤ n ∧ 0 ≤ a.f2
def sumCap : List S49 → Int
 | [] => 0
 | a :: t => a.f2 + sumCap t
theorem sumCap_nonneg {n : Int} {l : List S49} (h : ∀ a ∈ l, GoodArc n a) : 0 ≤ sumCap l := by
 induction l with
 | nil => exact Int.le_refl 0
 | cons a t ih =>
  have h1 := ih (fun x hx => h x (List.mem_cons_of_mem _ hx))
  have h2 := (h a List.mem_cons_self).2.2.2.2
  simp only [sumCap]; omega
theorem chk_app {n : Int} : ∀ {l m : List S49} {s : Int}, (∀ a ∈ l, GoodArc n a) → 0 ≤ s → s + sumCap l ≤ 4611686018427387903 → chkArcs n (l ++ m) s = chkArcs n m (s + sumCap l)
 | [], m, s, _, _, _ => by simp [sumCap]
 | a :: t, m, s, h, hs, hM => by
  obtain ⟨g0, g1, g2, g3, g4⟩ := h a List.mem_cons_self
  have ht : ∀ x ∈ t, GoodArc n x := fun x hx => h x (List.mem_cons_of_mem _ hx)
  have hn := sumCap_nonneg ht
  simp only [sumCap] at hM
  simp only [List.cons_append, chkArcs]
  rw [if_pos ⟨by omega, by omega⟩, if_pos ⟨g0, g1, g2, g3⟩, if_neg (by omega), if_neg (by omega), chk_app ht (by omega) (by omega)]
  simp only [sumCap]
  rw [Int.add_assoc]
theorem chk_ok {n : Int} {l : List S49} {s : Int} (h : ∀ a ∈ l, GoodArc n a) (hs : 0 ≤ s) (hM : s + sumCap l ≤ 4611686018427387903) : chkArcs n l s = some 0 := by
 have := chk_app (m := []) h hs hM
 rw [List.append_nil] at this
 rw [this, chkArcs]
/-- A right network. -/
structure Right (n s t : Int) (l : List S49) : Prop where
 n2 : 2 ≤ n
 n500 : n ≤ 500
 s1 : 1 ≤ s
 sn : s ≤ n
 t1 : 1 ≤ t
 tn : t ≤ n
 ne : s ≠ t
 len : l.length ≤ 2000
 arcs : ∀ a ∈ l, GoodArc n a
 sum : sumCap l ≤ 4611686018427387903
theorem Right.check {n s t : Int} {l : List S49} (h : Right n s t l) : net_Check.f n s t l = some 0 := by
 unfold net_Check.f
 have h1 := h.n2
 have h2 := h.n500
 have h3 := h.s1
 have h4 := h.sn
 have h5 := h.t1
 have h6 := h.tn
 have h8 := h.len
 rw [if_neg (by omega), if_neg (fun hc => hc ⟨h3, h4, h5, h6⟩), if_neg h.ne, if_neg (by omega)]
 exact chk_ok h.arcs (Int.le_refl 0) (by have := h.sum; omega)
/-- Which of n things the raw number c speaks of. -/
def pk (c n : Int) : Int := if c < 0 then Int.tmod (-(c + 1)) n else Int.tmod c n
theorem pk_range {c n : Int} (hn : 0 < n) : 0 ≤ pk c n ∧ pk c n < n := by
 unfold pk
 split
 ·exact ⟨Int.tmod_nonneg _ (by omega), Int.tmod_lt_of_pos _ hn⟩
 ·exact ⟨Int.tmod_nonneg _ (by omega), Int.tmod_lt_of_pos _ hn⟩
theorem wf_bounds {c : Int} (h : (Lit.int .i64 c).wf = true) : -9223372036854775808 ≤ c ∧ c ≤ 9223372036854775807 := by
 simp [Lit.wf] at h
 obtain ⟨h1, h2⟩ := h
 have e : IntKind.i64.min = -9223372036854775808 := by decide
 rw [e] at h1
 exact ⟨h1, h2⟩
theorem pick_eq {c n : Int} (h0 : -9223372036854775808 ≤ c) (h1 : c ≤ 9223372036854775807) (hn : 0 < n) : racewaylaw6_pick.f c n = some (pk c n) := by
 unfold racewaylaw6_pick.f pk
 by_cases hc : c < 0
 ·have e1 : wrap64 (c + 1) = c + 1 := by unfold wrap64; omega
  have e2 : wrap64 (-(c + 1)) = -(c + 1) := by unfold wrap64; omega
  rw [if_pos hc, if_pos hc, if_neg (by omega), e1, e2]
 ·rw [if_neg hc, if_neg hc, if_neg (by omega)]
theorem tdiv_bounds {c d : Int} (h0 : -9223372036854775808 ≤ c) (h1 : c ≤ 9223372036854775807) (hd : 0 < d) : -9223372036854775808 ≤ Int.tdiv c d ∧ Int.tdiv c d ≤ 9223372036854775807 := by
 by_cases hc : 0 ≤ c
 ·rw [Int.tdiv_eq_ediv_of_nonneg hc]
  have h2 := Int.ediv_nonneg hc (Int.le_of_lt hd)
  have h3 : c / d ≤ c := Int.ediv_le_self d hc
  omega
 ·have e : Int.tdiv c d = -(Int.tdiv (-c) d) := by rw [← Int.neg_tdiv, Int.neg_neg]
  rw [e, Int.tdiv_eq_ediv_of_nonneg (by omega)]
  have h2 : 0 ≤ (-c) / d := Int.ediv_nonneg (by omega) (Int.le_of_lt hd)
  have h3 : (-c) / d ≤ -c := Int.ediv_le_self d (by omega)
  omega
/-- A raw arc is of whole numbers of 64 bits. -/
def Wfc (x : S68) : Prop := (Lit.int .i64 x.f0).wf = true ∧ (Lit.int .i64 x.f1).wf = true ∧ (Lit.int .i64 x.f2).wf = true
def mkArc (n : Int) (x : S68) : S49 := ⟨1 + pk x.f0 n, 1 + pk x.f1 n, if pk (Int.tdiv x.f2 21) 9 = 0 then pk x.f2 1000000 else pk x.f2 21⟩
theorem mkArc_good {n : Int} (hn : 0 < n) (x : S68) : GoodArc n (mkArc n x) ∧ (mkArc n x).f2 < 1000000 := by
 have h0 := pk_range (c := x.f0) hn
 have h1 := pk_range (c := x.f1) hn
 have h2 := pk_range (c := x.f2) (n := 1000000) (by omega)
 have h3 := pk_range (c := x.f2) (n := 21) (by omega)
 simp only [GoodArc, mkArc]
 split <;> exact ⟨⟨by omega, by omega, by omega, by omega, by omega⟩, by omega⟩
theorem made_loop {l : List S68} (hw : ∀ x ∈ l, Wfc x) {n s t : Int} (h2 : 2 ≤ n) (h9 : n ≤ 9) (d : Nat) : ∀ (i : Nat), i + d = min l.length 24 →
  Ev (fun k => racewaylaw6_made.l0 k l (i : Int) n s t ((l.take i).map (mkArc n))) (n, s, t, (l.take 24).map (mkArc n)) := by
 induction d with
 | zero =>
  intro i hi
  have e : (l.take i).map (mkArc n) = (l.take 24).map (mkArc n) := by
   have e0 : l.take i = l.take 24 := List.take_eq_take_iff.2 (by omega)
   rw [e0]
  by_cases hl : (i : Int) < (l.length : Int)
  ·refine Ev.step (fun k => ?_) (Ev.step (f := fun _ => some (n, s, t, (l.take i).map (mkArc n))) (g := fun k => racewaylaw6_made.j1 k l (i : Int) false n s t ((l.take i).map (mkArc n))) (fun k => ?_) (by rw [e]; exact Ev.now _))
   ·simp only [racewaylaw6_made.l0]
    rw [if_pos hl, decide_eq_false (by omega)]
   ·simp [racewaylaw6_made.j1]
  ·refine Ev.step (fun k => ?_) (Ev.step (f := fun _ => some (n, s, t, (l.take i).map (mkArc n))) (g := fun k => racewaylaw6_made.j1 k l (i : Int) false n s t ((l.take i).map (mkArc n))) (fun k => ?_) (by rw [e]; exact Ev.now _))
   ·simp only [racewaylaw6_made.l0]
    rw [if_neg hl]
   ·simp [racewaylaw6_made.j1]
 | succ d ih =>
  intro i hi
  have hil : i < l.length := by omega
  have hx : rd_T68 l (i : Int) = l[i] := by simp [rd_T68, hil]
  obtain ⟨w0, w1, w2⟩ := hw l[i] (List.getElem_mem hil)
  obtain ⟨l0, u0⟩ := wf_bounds w0
  obtain ⟨l1, u1⟩ := wf_bounds w1
  obtain ⟨l2, u2⟩ := wf_bounds w2
  obtain ⟨l3, u3⟩ := tdiv_bounds l2 u2 (d := 21) (by omega)
  have p0 := pk_range (c := l[i].f0) (n := n) (by omega)
  have p1 := pk_range (c := l[i].f1) (n := n) (by omega)
  have et : (l.take (i + 1)).map (mkArc n) = (l.take i).map (mkArc n) ++ [mkArc n l[i]] := by
   rw [List.take_succ_eq_append_getElem hil, List.map_append]; rfl
  refine Ev.step (f := fun k => racewaylaw6_made.j1 k l (i : Int) true n s t ((l.take i).map (mkArc n))) (fun k => ?_) (Ev.step (f := fun k => racewaylaw6_made.l0 k l ((i + 1 : Nat) : Int) n s t ((l.take (i + 1)).map (mkArc n))) (fun k => ?_) (ih (i + 1) (by omega)))
  ·simp only [racewaylaw6_made.l0]
   rw [if_pos (by omega), decide_eq_true (by omega)]
  ·simp only [racewaylaw6_made.j1, if_true]
   rw [if_pos (by omega), if_pos (by omega), hx, pick_eq l2 u2 (by omega)]
   simp only [Option.bind_some]
   rw [wrap_id l3 u3, pick_eq l3 u3 (by omega)]
   simp only [Option.bind_some]
   rw [pick_eq l2 u2 (by omega), pick_eq l0 u0 (by omega), pick_eq l1 u1 (by omega)]
   simp only [Option.bind_some]
   rw [wrap_id (by omega) (by omega), wrap_id (by omega) (by omega), wrap_id (by omega) (by omega), et]
   have hlm : ((l.take i).map (mkArc n)).length < 5864062014805 := by rw [List.length_map, List.length_take]; omega
   by_cases hz : pk (Int.tdiv l[i].f2 21) 9 = 0
   ·rw [if_pos hz, if_pos hlm]
    simp only [mkArc, if_pos hz]
    rfl
   ·rw [if_neg hz, if_pos hlm]
    simp only [mkArc, if_neg hz]
    rfl
/-- What is made of raw numbers. -/
theorem made_ev {a0 a1 : Int} {l : List S68} (w0 : (Lit.int .i64 a0).wf = true) (w1 : (Lit.int .i64 a1).wf = true) (hw : ∀ x ∈ l, Wfc x) :
  ∃ n s t arcs, Ev (fun k => racewaylaw6_made.f k a0 a1 l) (n, s, t, arcs) ∧ 2 ≤ n ∧ n ≤ 9 ∧ Right n s t arcs ∧ arcs.length ≤ 24 ∧ arcs.length = min l.length 24 ∧ (∀ a ∈ arcs, a.f2 < 1000000) := by
 obtain ⟨l0, u0⟩ := wf_bounds w0
 obtain ⟨l1, u1⟩ := wf_bounds w1
 obtain ⟨l2, u2⟩ := tdiv_bounds l1 u1 (d := 16) (by omega)
 have p0 := pk_range (c := a0) (n := 8) (by omega)
 obtain ⟨n, hn⟩ : ∃ n, 2 + pk a0 8 = n := ⟨_, rfl⟩
 have p1 := pk_range (c := a1) (n := n) (by omega)
 have p2 := pk_range (c := Int.tdiv a1 16) (n := n - 1) (by omega)
 obtain ⟨s, hs⟩ : ∃ s, 1 + pk a1 n = s := ⟨_, rfl⟩
 obtain ⟨q, hq⟩ : ∃ q, pk (Int.tdiv a1 16) (n - 1) = q := ⟨_, rfl⟩
 obtain ⟨t, ht⟩ : ∃ t, 1 + Int.tmod (s + q) n = t := ⟨_, rfl⟩
 have b0 : 0 ≤ Int.tmod (s + q) n := Int.tmod_nonneg _ (by omega)
 have b1 : Int.tmod (s + q) n < n := Int.tmod_lt_of_pos _ (by omega)
 have hne : s ≠ t := by
  have e : Int.tmod (s + q) n = (s + q) % n := Int.tmod_eq_emod_of_nonneg (by omega)
  rw [hq] at p2
  by_cases hc : s + q < n
  ·rw [Int.emod_eq_of_lt (by omega) hc] at e; omega
  ·have e2 : (s + q) % n = (s + q - n) % n := by rw [Int.sub_emod_right]
   rw [e2, Int.emod_eq_of_lt (by omega) (by omega)] at e; omega
 have hlen : ((l.take 24).map (mkArc n)).length = min l.length 24 := by simp; omega
 have hgood : ∀ a ∈ (l.take 24).map (mkArc n), GoodArc n a ∧ a.f2 < 1000000 := by
  intro a ha
  obtain ⟨x, _, rfl⟩ := List.mem_map.1 ha
  exact mkArc_good (by omega) x
 have hsum : ∀ m : List S49, (∀ a ∈ m, GoodArc n a ∧ a.f2 < 1000000) → sumCap m ≤ 1000000 * m.length := by
  intro m
  induction m with
  | nil => intro _; simp [sumCap]
  | cons a r ih =>
   intro h
   have h1 := ih (fun x hx => h x (List.mem_cons_of_mem _ hx))
   have h2 := (h a List.mem_cons_self).2
   simp only [sumCap, List.length_cons]; omega
 have hs2 := hsum _ hgood
 refine ⟨n, s, t, (l.take 24).map (mkArc n), ?_, by omega, by omega, ⟨by omega, by omega, by omega, by omega, by omega, by omega, hne, by omega, fun a ha => (hgood a ha).1, by omega⟩, by omega, hlen, fun a ha => (hgood a ha).2⟩
 refine Ev.congr (f := fun k => racewaylaw6_made.l0 k l 0 n s t []) (fun k => ?_) ?_
 ·unfold racewaylaw6_made.f
  rw [pick_eq l0 u0 (by omega)]
  simp only [Option.bind_some]
  rw [wrap_id (x := 2 + pk a0 8) (by omega) (by omega), hn, pick_eq l1 u1 (by omega)]
  simp only [Option.bind_some]
  rw [wrap_id (x := n - 1) (by omega) (by omega), wrap_id l2 u2, pick_eq l2 u2 (by omega)]
  simp only [Option.bind_some]
  rw [if_neg (by omega), wrap_id (x := 1 + pk a1 n) (by omega) (by omega), hs, hq, wrap_id (x := s + q) (by omega) (by omega), wrap_id (x := 1 + Int.tmod (s + q) n) (by omega) (by omega), ht]
 ·have := made_loop hw (n := n) (s := s) (t := t) (by omega) (by omega) (min l.length 24) 0 (by omega)
  simpa using this
/-- Amounts within the capacities. -/
def Within : List S49 → List Int → Prop
 | [], [] => True
 | a :: l, x :: f => 0 ≤ x ∧ x ≤ a.f2 ∧ Within l f
 | _, _ => False
/-- What comes in to a node, without what goes out. -/
def exc : List S49 → List Int → Int → Int
 | a :: l, x :: f, v => (if a.f1 = v then x else 0) - (if a.f0 = v then x else 0) + exc l f v
 | _, _, _ => 0
theorem exc_nil (f : List Int) (v : Int) : exc [] f v = 0 := by cases f <;> rfl
def sumL : List Int → Int
 | [] => 0
 | x :: f => x + sumL f
theorem Within.len : ∀ {l : List S49} {f : List Int}, Within l f → f.length = l.length
 | [], [], _ => rfl
 | _ :: _, _ :: _, h => by simp [Within.len h.2.2]
 | [], _ :: _, h => h.elim
 | _ :: _, [], h => h.elim
theorem Within.get : ∀ {l : List S49} {f : List Int}, Within l f → ∀ i (h : i < l.length) (h' : i < f.length), 0 ≤ f[i] ∧ f[i] ≤ (l[i]).f2
 | _ :: _, _ :: _, h, 0, _, _ => ⟨h.1, h.2.1⟩
 | _ :: l, _ :: f, h, i + 1, h1, h2 => by
  simp only [List.getElem_cons_succ]
  exact Within.get h.2.2 i (by simpa using h1) (by simpa using h2)
 | [], [], _, i, h1, _ => absurd h1 (by simp)
theorem Within.of : ∀ {l : List S49} {f : List Int}, f.length = l.length → (∀ i (h : i < l.length) (h' : i < f.length), 0 ≤ f[i] ∧ f[i] ≤ (l[i]).f2) → Within l f
 | [], [], _, _ => trivial
 | a :: l, x :: f, hl, h => by
  have h0 := h 0 (by simp) (by simp)
  exact ⟨h0.1, h0.2, Within.of (by simpa using hl) (fun i h1 h2 => by have := h (i + 1) (by simpa using h1) (by simpa using h2); simpa using this)⟩
 | [], _ :: _, hl, _ => absurd hl (by simp)
 | _ :: _, [], hl, _ => absurd hl (by simp)
theorem rd_get {f : List Int} {i : Nat} (h : i < f.length) : rd f (i : Int) = f[i] := by simp [rd, h]
theorem rdT_get {l : List S49} {i : Nat} (h : i < l.length) : rd_T49 l (i : Int) = l[i] := by simp [rd_T49, h]
theorem Within.sum : ∀ {l : List S49} {f : List Int}, Within l f → 0 ≤ sumL f ∧ sumL f ≤ sumCap l
 | [], [], _ => ⟨Int.le_refl _, Int.le_refl _⟩
 | a :: l, x :: f, h => by
  have := Within.sum h.2.2
  have h1 := h.1
  have h2 := h.2.1
  simp only [sumL, sumCap]; omega
 | [], _ :: _, h => h.elim
 | _ :: _, [], h => h.elim
theorem Within.nonneg : ∀ {l : List S49} {f : List Int}, Within l f → ∀ x ∈ f, 0 ≤ x
 | [], [], _, x, hx => by cases hx
 | a :: l, y :: f, h, x, hx => by
  rcases List.mem_cons.1 hx with rfl | hx
  ·exact h.1
  ·exact Within.nonneg h.2.2 x hx
 | [], _ :: _, h, _, _ => h.elim
 | _ :: _, [], h, _, _ => h.elim
theorem Within.drop : ∀ {l : List S49} {f : List Int}, Within l f → ∀ i, Within (l.drop i) (f.drop i)
 | l, f, h, 0 => by simpa using h
 | [], [], _, _ + 1 => trivial
 | _ :: _, _ :: _, h, i + 1 => by simpa using Within.drop h.2.2 i
 | [], _ :: _, h, _ + 1 => h.elim
 | _ :: _, [], h, _ + 1 => h.elim
theorem Within.zeros : ∀ {l : List S49}, (∀ a ∈ l, 0 ≤ a.f2) → Within l (List.replicate l.length 0)
 | [], _ => trivial
 | a :: l, h => ⟨Int.le_refl _, h a List.mem_cons_self, Within.zeros (fun x hx => h x (List.mem_cons_of_mem _ hx))⟩
theorem exc_zeros : ∀ (l : List S49) (n : Nat) (v : Int), exc l (List.replicate n 0) v = 0
 | [], _, _ => by simp [exc]
 | _ :: _, 0, _ => by simp [exc]
 | a :: l, n + 1, v => by
  simp only [List.replicate_succ, exc, exc_zeros l n v]
  split <;> split <;> rfl
theorem Within.set : ∀ {l : List S49} {f : List Int}, Within l f → ∀ (i : Nat) (x : Int), 0 ≤ x → (∀ h : i < l.length, x ≤ (l[i]).f2) → Within l (f.set i x)
 | [], [], _, _, _, _, _ => by simp [Within]
 | a :: l, y :: f, h, 0, x, h0, hx => ⟨h0, hx (by simp), h.2.2⟩
 | a :: l, y :: f, h, i + 1, x, h0, hx => ⟨h.1, h.2.1, Within.set h.2.2 i x h0 (fun h' => by have := hx (by simpa using h'); simpa using this)⟩
 | [], _ :: _, h, _, _, _, _ => h.elim
 | _ :: _, [], h, _, _, _, _ => h.elim
theorem exc_set : ∀ {l : List S49} {f : List Int} (i : Nat) (x v : Int) (h : i < l.length) (h' : i < f.length),
  exc l (f.set i x) v = exc l f v + ((if (l[i]).f1 = v then x - f[i] else 0) - (if (l[i]).f0 = v then x - f[i] else 0))
 | [], _, _, _, _, h, _ => absurd h (by simp)
 | _ :: _, [], _, _, _, _, h' => absurd h' (by simp)
 | a :: l, y :: f, 0, x, v, _, _ => by
  simp only [List.set_cons_zero, exc, List.getElem_cons_zero]
  split <;> split <;> omega
 | a :: l, y :: f, i + 1, x, v, h, h' => by
  simp only [List.set_cons_succ, exc, List.getElem_cons_succ]
  rw [exc_set i x v (by simpa using h) (by simpa using h')]
  omega
theorem exc_bound : ∀ {l : List S49} {f : List Int}, (∀ x ∈ f, 0 ≤ x) → ∀ v, -sumL f ≤ exc l f v ∧ exc l f v ≤ sumL f
 | [], f, h, v => by
  have : ∀ g : List Int, (∀ x ∈ g, 0 ≤ x) → 0 ≤ sumL g := by
   intro g
   induction g with
   | nil => intro _; exact Int.le_refl _
   | cons y g ih => intro hg; have := ih (fun x hx => hg x (List.mem_cons_of_mem _ hx)); have := hg y List.mem_cons_self; simp only [sumL]; omega
  have := this f h
  simp only [exc]; omega
 | _ :: _, [], _, v => by simp [exc, sumL]
 | a :: l, x :: f, h, v => by
  have h1 := exc_bound (l := l) (fun y hy => h y (List.mem_cons_of_mem _ hy)) v
  have h2 := h x List.mem_cons_self
  simp only [exc, sumL]
  split <;> split <;> omega
/-- A flow. -/
structure IsFlow (n s t : Int) (l : List S49) (f : List Int) : Prop where
 within : Within l f
 cons : ∀ v, 1 ≤ v → v ≤ n → v ≠ s → v ≠ t → exc l f v = 0
theorem IsFlow.zeros {n s t : Int} {l : List S49} (h : ∀ a ∈ l, GoodArc n a) : IsFlow n s t l (List.replicate l.length 0) :=
 ⟨Within.zeros (fun a ha => (h a ha).2.2.2.2), fun v _ _ _ _ => exc_zeros _ _ _⟩
theorem rd_set {xs : List Int} {j u x : Int} (h0 : 0 ≤ j) (h1 : j < (xs.length : Int)) (hu : 0 ≤ u) : rd (xs.set j.toNat x) u = if j = u then x else rd xs u := by
 unfold rd
 rw [List.getD_eq_getElem?_getD, List.getD_eq_getElem?_getD, List.getElem?_set]
 by_cases e : j = u
 ·subst e
  rw [if_pos rfl, if_pos (by omega), if_pos rfl]; rfl
 ·rw [if_neg (by omega), if_neg e]
theorem sumL_drop {f : List Int} {i : Nat} (h : i < f.length) : sumL (f.drop i) = f[i] + sumL (f.drop (i + 1)) := by
 rw [List.drop_eq_getElem_cons h]; rfl
theorem sumL_nonneg : ∀ {g : List Int}, (∀ x ∈ g, 0 ≤ x) → 0 ≤ sumL g
 | [], _ => Int.le_refl _
 | y :: g, h => by
  have h1 := sumL_nonneg (g := g) (fun x hx => h x (List.mem_cons_of_mem _ hx))
  have h2 := h y List.mem_cons_self
  simp only [sumL]; omega
theorem exc_loop {n : Int} {l : List S49} {f : List Int} (hg : ∀ a ∈ l, GoodArc n a) (hf : ∀ x ∈ f, 0 ≤ x) (hlen : f.length = l.length) (hS : sumL f ≤ 4611686018427387903) (hl : l.length ≤ 2000) (d : Nat) :
  ∀ (i : Nat) (out : List Int), i + d = l.length → (out.length : Int) = n + 1 → (∀ v, 0 ≤ v → v ≤ n → -(sumL f - sumL (f.drop i)) ≤ rd out v ∧ rd out v ≤ sumL f - sumL (f.drop i)) →
   ∃ out', Ev (fun k => flow_excesses.l0 k f out l (l.length : Int) (i : Int)) out' ∧ (out'.length : Int) = n + 1 ∧ ∀ v, 0 ≤ v → v ≤ n → rd out' v = rd out v + exc (l.drop i) (f.drop i) v := by
 induction d with
 | zero =>
  intro i out hi ho _
  refine ⟨out, Ev.step (f := fun _ => some out) (fun k => ?_) (Ev.now _), ho, fun v _ _ => ?_⟩
  ·simp only [flow_excesses.l0]
   rw [if_neg (by omega)]
  ·rw [List.drop_of_length_le (show l.length ≤ i by omega), exc_nil]; omega
 | succ d ih =>
  intro i out hi ho hb
  have hil : i < l.length := by omega
  have hif : i < f.length := by omega
  obtain ⟨g0, g1, g2, g3, _⟩ := hg l[i] (List.getElem_mem hil)
  have hx0 := hf f[i] (List.getElem_mem hif)
  have hsd := sumL_drop hif
  have hsn := sumL_nonneg (g := f.drop (i + 1)) (fun x hx => hf x (List.mem_of_mem_drop hx))
  have b0 := hb (l[i]).f0 (by omega) g1
  have e1 : wrap64 (rd out (l[i]).f0 - f[i]) = rd out (l[i]).f0 - f[i] := wrap_id (by omega) (by omega)
  have hr1 : ∀ u, 0 ≤ u → rd (out.set ((l[i]).f0).toNat (rd out (l[i]).f0 - f[i])) u = if (l[i]).f0 = u then rd out (l[i]).f0 - f[i] else rd out u := fun u hu => rd_set (by omega) (by omega) hu
  have b1 := hb (l[i]).f1 (by omega) g3
  have e2 : wrap64 (rd (out.set ((l[i]).f0).toNat (rd out (l[i]).f0 - f[i])) (l[i]).f1 + f[i]) = rd (out.set ((l[i]).f0).toNat (rd out (l[i]).f0 - f[i])) (l[i]).f1 + f[i] := by
   have := hr1 (l[i]).f1 (by omega)
   rw [this]
   split <;> exact wrap_id (by omega) (by omega)
  have hr2 : ∀ u, 0 ≤ u → rd ((out.set ((l[i]).f0).toNat (rd out (l[i]).f0 - f[i])).set ((l[i]).f1).toNat (rd (out.set ((l[i]).f0).toNat (rd out (l[i]).f0 - f[i])) (l[i]).f1 + f[i])) u = rd out u + ((if (l[i]).f1 = u then f[i] else 0) - (if (l[i]).f0 = u then f[i] else 0)) := by
   intro u hu
   rw [rd_set (by omega) (by rw [List.length_set]; omega) hu, hr1 (l[i]).f1 (by omega), hr1 u hu]
   by_cases c1 : (l[i]).f1 = u
   ·by_cases c0 : (l[i]).f0 = u
    ·rw [if_pos c1, if_pos (by omega), if_pos c1, if_pos c0, c0]; omega
    ·rw [if_pos c1, if_neg (by omega), if_pos c1, if_neg c0, c1]; omega
   ·by_cases c0 : (l[i]).f0 = u
    ·rw [if_neg c1, if_pos c0, if_neg c1, if_pos c0, c0]; omega
    ·rw [if_neg c1, if_neg c0, if_neg c1, if_neg c0]; omega
  obtain ⟨Y, hYd⟩ : ∃ Y, ((out.set ((l[i]).f0).toNat (rd out (l[i]).f0 - f[i])).set ((l[i]).f1).toNat (rd (out.set ((l[i]).f0).toNat (rd out (l[i]).f0 - f[i])) (l[i]).f1 + f[i])) = Y := ⟨_, rfl⟩
  rw [hYd] at hr2
  obtain ⟨out', h1, h2, h3⟩ := ih (i + 1) Y (by omega) (by rw [← hYd, List.length_set, List.length_set]; exact ho) (fun v hv0 hv1 => by
   have hbv := hb v hv0 hv1
   have e := hr2 v hv0
   rw [e]
   by_cases c1 : (l[i]).f1 = v
   ·by_cases c0 : (l[i]).f0 = v
    ·rw [if_pos c1, if_pos c0]; omega
    ·rw [if_pos c1, if_neg c0]; omega
   ·by_cases c0 : (l[i]).f0 = v
    ·rw [if_neg c1, if_pos c0]; omega
    ·rw [if_neg c1, if_neg c0]; omega)
  refine ⟨out', Ev.step (fun k => ?_) h1, h2, fun v hv0 hv1 => ?_⟩
  ·simp only [flow_excesses.l0]
   rw [if_pos (by omega), if_pos (by omega), if_pos (by omega), rdT_get hil, rd_get hif, if_pos (by omega), if_pos (by omega), if_pos (by omega), e1]
   simp only [Option.bind_some]
   rw [if_pos (by omega), if_pos (by omega), e2, wrap_id (by omega) (by omega), hYd]
   rfl
  ·rw [h3 v hv0 hv1, hr2 v hv0, List.drop_eq_getElem_cons hil, List.drop_eq_getElem_cons hif]
   simp only [exc]; omega
theorem rd_replicate (m : Nat) (v : Int) : rd (List.replicate m 0) v = 0 := by
 unfold rd
 rw [List.getD_eq_getElem?_getD, List.getElem?_replicate]
 split <;> rfl
/-- All excesses. -/
theorem excesses_ev {n s t : Int} {l : List S49} {f : List Int} (R : Right n s t l) (W : Within l f) :
  ∃ out, Ev (fun k => flow_excesses.f k n s t l f) out ∧ (out.length : Int) = n + 1 ∧ ∀ v, 0 ≤ v → v ≤ n → rd out v = exc l f v := by
 have h1 := R.n2
 have h2 := R.n500
 have hs := W.sum
 have hR := R.sum
 obtain ⟨out, ho, hl, hv⟩ := exc_loop R.arcs W.nonneg W.len (by omega) R.len l.length 0 (List.replicate (n + 1).toNat 0) (by omega) (by simp; omega) (fun v _ _ => by rw [rd_replicate, List.drop_zero]; omega)
 refine ⟨out, Ev.congr (fun k => ?_) ho, hl, fun v h0 h3 => ?_⟩
 ·unfold flow_excesses.f
  rw [wrap_id (x := n + 1) (by omega) (by omega), if_pos (by omega), if_pos (by omega)]
  rfl
 ·rw [hv v h0 h3, rd_replicate, List.drop_zero, List.drop_zero]; omega
theorem within_loop {n s t : Int} {l : List S49} {f : List Int} (W : Within l f) (hl : l.length ≤ 2000) (d : Nat) : ∀ i : Nat, i + d = f.length → Ev (fun k => flow_within.l0 k f (f.length : Int) (i : Int) n s t l) 0 := by
 have hlen := W.len
 induction d with
 | zero =>
  intro i hi
  refine Ev.step (f := fun _ => some 0) (fun k => ?_) (Ev.now _)
  simp only [flow_within.l0]
  rw [if_neg (by omega)]
 | succ d ih =>
  intro i hi
  have hif : i < f.length := by omega
  have hil : i < l.length := by omega
  have hb := W.get i hil hif
  refine Ev.step (fun k => ?_) (ih (i + 1) (by omega))
  simp only [flow_within.l0]
  rw [if_pos (by omega), if_pos (by omega), if_pos (by omega), rd_get hif, rdT_get hil, if_neg (by omega), if_pos (by omega), if_neg (by omega), wrap_id (by omega) (by omega)]
  rfl
theorem within_yes {n s t : Int} {l : List S49} {f : List Int} (R : Right n s t l) (W : Within l f) : Ev (fun k => flow_within.f k n s t l f) 0 := by
 have hlen := W.len
 refine Ev.congr (fun k => ?_) (within_loop (n := n) (s := s) (t := t) W R.len f.length 0 (by omega))
 unfold flow_within.f
 rw [R.check]
 simp only [Option.bind_some, if_true]
 rw [if_pos (by omega)]
 rfl
theorem check_loop {n s t : Int} {l : List S49} {x : List Int} (hn : n ≤ 500) (hx : (x.length : Int) = n + 1) (d : Nat) : ∀ i : Nat, (i : Int) + d = n → (∀ v, (i : Int) < v → v ≤ n → v ≠ s → v ≠ t → rd x v = 0) →
  Ev (fun k => flow_Check.l0 k x n (i : Int) n s t l) 0 := by
 induction d with
 | zero =>
  intro i hi _
  refine Ev.step (f := fun _ => some 0) (fun k => ?_) (Ev.now _)
  simp only [flow_Check.l0]
  rw [if_neg (by omega)]
 | succ d ih =>
  intro i hi hz
  refine Ev.step (fun k => ?_) (ih (i + 1) (by omega) (fun v h1 h2 h3 h4 => hz v (by omega) h2 h3 h4))
  simp only [flow_Check.l0]
  rw [if_pos (by omega), wrap_id (by omega) (by omega)]
  by_cases c1 : (i : Int) + 1 = s
  ·rw [if_pos c1]; rfl
  ·by_cases c2 : (i : Int) + 1 = t
   ·rw [if_neg c1, if_pos c2]; rfl
   ·rw [if_neg c1, if_neg c2, if_pos (by omega), if_pos (by omega), if_pos (hz _ (by omega) (by omega) c1 c2)]; rfl
theorem check_flow {n s t : Int} {l : List S49} {f : List Int} (R : Right n s t l) (F : IsFlow n s t l f) : Ev (fun k => flow_Check.f k n s t l f) 0 := by
 obtain ⟨x, h1, h2, h3⟩ := excesses_ev R F.within
 have hn := R.n2
 unfold flow_Check.f
 refine Ev.bind (within_yes R F.within) ?_
 simp only [if_true]
 refine Ev.bind h1 ?_
 exact check_loop R.n500 h2 n.toNat 0 (by omega) (fun v hv1 hv2 hv3 hv4 => by rw [h3 v (by omega) hv2]; exact F.cons v (by omega) hv2 hv3 hv4)
theorem value_flow {n s t : Int} {l : List S49} {f : List Int} (R : Right n s t l) (F : IsFlow n s t l f) : Ev (fun k => flow_Value.f k n s t l f) (exc l f t, 0) := by
 obtain ⟨x, h1, h2, h3⟩ := excesses_ev R F.within
 have ht1 := R.t1
 have htn := R.tn
 unfold flow_Value.f
 refine Ev.bind (check_flow R F) ?_
 simp only [if_true]
 refine Ev.bind h1 ?_
 refine Ev.congr (fun k => ?_) (Ev.now (exc l f t, 0))
 rw [if_pos (by omega), if_pos (by omega), h3 t (by omega) htn]
theorem rdOf_set {m : List Bool} {j u : Int} {b : Bool} (h0 : 0 ≤ j) (h1 : j < (m.length : Int)) (hu : 0 ≤ u) : rdOf false (m.set j.toNat b) u = if j = u then b else rdOf false m u := by
 unfold rdOf
 rw [List.getD_eq_getElem?_getD, List.getD_eq_getElem?_getD, List.getElem?_set]
 by_cases e : j = u
 ·subst e
  rw [if_pos rfl, if_pos (by omega), if_pos rfl]; rfl
 ·rw [if_neg (by omega), if_neg e]
/-- How many nodes were not met. -/
def cntF : List Bool → Nat
 | [] => 0
 | b :: m => (if b = true then 0 else 1) + cntF m
theorem cntF_set : ∀ {m : List Bool} {i : Nat}, i < m.length → m.getD i false = false → cntF (m.set i true) + 1 = cntF m
 | [], _, h, _ => absurd h (by simp)
 | b :: m, 0, _, h => by
  have hb : b = false := by simpa using h
  subst hb
  simp [cntF]; omega
 | b :: m, i + 1, h, hb => by
  have := cntF_set (m := m) (i := i) (by simpa using h) (by simpa using hb)
  simp only [List.set_cons_succ, cntF]; omega
theorem cntF_replicate (k : Nat) : cntF (List.replicate k false) = k := by
 induction k with
 | zero => rfl
 | succ k ih => simp only [List.replicate_succ, cntF, ih]; simp; omega
/-- A walk along arcs, by their numbers. -/
def Path (l : List S49) : Int → List Int → Int → Prop
 | u, [], v => u = v
 | u, i :: w, v => (rd_T49 l i).f0 = u ∧ Path l (rd_T49 l i).f1 w v
theorem Path.snoc {l : List S49} : ∀ {w : List Int} {u v i : Int}, Path l u w v → (rd_T49 l i).f0 = v → Path l u (w ++ [i]) (rd_T49 l i).f1
 | [], u, v, i, h, hi => ⟨by rw [hi]; exact h.symm, rfl⟩
 | _ :: w, u, v, i, h, hi => ⟨h.1, Path.snoc h.2 hi⟩
/-- What walked tells: nothing, or a walk from source to sink, along which there is room. -/
def GoodWalk (l : List S49) (f : List Int) (s t : Int) (w : List Int) : Prop :=
 w = [] ∨ (Path l s w t ∧ w.Nodup ∧ ∀ j ∈ w, 0 ≤ j ∧ j < (l.length : Int) ∧ rd f j < (rd_T49 l j).f2)
def FitOk (l : List S49) (f : List Int) (met : List Bool) (at_ : Int) (F : List Int) : Prop :=
 ∀ j ∈ F, 0 ≤ j ∧ j < (l.length : Int) ∧ (rd_T49 l j).f0 = at_ ∧ rdOf false met (rd_T49 l j).f1 = false ∧ rd f j < (rd_T49 l j).f2
theorem wrap_succ {i : Nat} (h : i ≤ 1000000) : wrap64 ((i : Int) + 1) = ((i + 1 : Nat) : Int) := by rw [wrap_id (by omega) (by omega)]; rfl
theorem fit_run {n s t at_ raw : Int} {l : List S49} {f w : List Int} {met : List Bool} (hg : ∀ a ∈ l, GoodArc n a) (hlen : f.length = l.length) (hl : l.length ≤ 2000) (hm : (met.length : Int) = n + 1) (Q : List Int → Prop)
  (H : ∀ F, FitOk l f met at_ F → F.length ≤ l.length → ∃ r, Ev (fun k => racewaylaw6_walked.l1 k f raw met at_ w F (l.length : Int) n s t l) r ∧ Q r) (d : Nat) :
  ∀ (i : Nat) (F : List Int), i + d = l.length → FitOk l f met at_ F → F.length ≤ i → ∃ r, Ev (fun k => racewaylaw6_walked.l1 k f raw met at_ w F (i : Int) n s t l) r ∧ Q r := by
 induction d with
 | zero =>
  intro i F hi hF hlF
  obtain rfl : i = l.length := by omega
  exact H F hF hlF
 | succ d ih =>
  intro i F hi hF hlF
  have hil : i < l.length := by omega
  have hif : i < f.length := by omega
  obtain ⟨g0, g1, g2, g3, g4⟩ := hg l[i] (List.getElem_mem hil)
  by_cases c0 : (l[i]).f0 = at_
  ·by_cases c1 : rdOf false met (l[i]).f1 = true
   ·obtain ⟨r, hr, hq⟩ := ih (i + 1) F (by omega) hF (by omega)
    refine ⟨r, Ev.step (fun k => ?_) hr, hq⟩
    simp only [racewaylaw6_walked.l1]
    rw [if_pos (by omega), if_pos (by omega), rdT_get hil, if_pos c0, if_pos (by omega), if_pos (by omega), if_pos c1, wrap_succ (by omega)]
   ·by_cases c2 : f[i] < (l[i]).f2
    ·obtain ⟨r, hr, hq⟩ := ih (i + 1) (F ++ [(i : Int)]) (by omega) (fun j hj => by
      rcases List.mem_append.1 hj with hj | hj
      ·exact hF j hj
      ·obtain rfl := List.mem_singleton.1 hj
       rw [rdT_get hil, rd_get hif]
       exact ⟨by omega, by omega, c0, by simpa using c1, c2⟩) (by simp; omega)
     refine ⟨r, Ev.step (fun k => ?_) hr, hq⟩
     simp only [racewaylaw6_walked.l1]
     rw [if_pos (by omega), if_pos (by omega), rdT_get hil, rd_get hif, if_pos c0, if_pos (by omega), if_pos (by omega), if_neg c1, if_pos (by omega), if_pos c2, if_pos (by omega), wrap_succ (by omega)]
    ·obtain ⟨r, hr, hq⟩ := ih (i + 1) F (by omega) hF (by omega)
     refine ⟨r, Ev.step (fun k => ?_) hr, hq⟩
     simp only [racewaylaw6_walked.l1]
     rw [if_pos (by omega), if_pos (by omega), rdT_get hil, rd_get hif, if_pos c0, if_pos (by omega), if_pos (by omega), if_neg c1, if_pos (by omega), if_neg c2, wrap_succ (by omega)]
  ·obtain ⟨r, hr, hq⟩ := ih (i + 1) F (by omega) hF (by omega)
   refine ⟨r, Ev.step (fun k => ?_) hr, hq⟩
   simp only [racewaylaw6_walked.l1]
   rw [if_pos (by omega), if_pos (by omega), rdT_get hil, if_neg c0, wrap_succ (by omega)]
theorem rd_mem {F : List Int} {i : Int} (h0 : 0 ≤ i) (h1 : i < (F.length : Int)) : rd F i ∈ F := by
 have hlt : i.toNat < F.length := by omega
 have : rd F i = F[i.toNat] := by unfold rd; rw [List.getD_eq_getElem?_getD, List.getElem?_eq_getElem hlt]; rfl
 rw [this]; exact List.getElem_mem hlt
theorem rdT_mem {l : List S49} {i : Int} (h0 : 0 ≤ i) (h1 : i < (l.length : Int)) : rd_T49 l i ∈ l := by
 have hlt : i.toNat < l.length := by omega
 have : rd_T49 l i = l[i.toNat] := by unfold rd_T49; rw [List.getD_eq_getElem?_getD, List.getElem?_eq_getElem hlt]; rfl
 rw [this]; exact List.getElem_mem hlt
theorem walk_run {n s t raw : Int} {l : List S49} {f : List Int} (hraw : (Lit.int .i64 raw).wf = true) (hg : ∀ a ∈ l, GoodArc n a) (hlen : f.length = l.length) (hl : l.length ≤ 2000) (hn : n ≤ 500) (c : Nat) :
  ∀ (met : List Bool) (at_ : Int) (w : List Int), cntF met = c → (met.length : Int) = n + 1 → (w.length : Int) + c ≤ n + 1 → Path l s w at_ → w.Nodup →
   (∀ j ∈ w, 0 ≤ j ∧ j < (l.length : Int) ∧ rd f j < (rd_T49 l j).f2 ∧ rdOf false met (rd_T49 l j).f1 = true) →
   ∃ r, Ev (fun k => racewaylaw6_walked.l0 k f raw met at_ w n s t l) r ∧ GoodWalk l f s t r := by
 obtain ⟨r0, r1⟩ := wf_bounds hraw
 induction c with
 | zero =>
  intro met at_ w hc hm hw hp hnd hj
  by_cases ht : at_ = t
  ·refine ⟨w, Ev.step (f := fun _ => some w) (fun k => ?_) (Ev.now _), Or.inr ⟨by rw [← ht]; exact hp, hnd, fun j h => ⟨(hj j h).1, (hj j h).2.1, (hj j h).2.2.1⟩⟩⟩
   simp only [racewaylaw6_walked.l0]
   rw [if_pos ht]
  ·obtain ⟨r, hr, hq⟩ := fit_run (n := n) (s := s) (t := t) (at_ := at_) (raw := raw) (w := w) hg hlen hl hm (GoodWalk l f s t) (fun F hF hFl => by
    have hF0 : F = [] := by
     cases F with
     | nil => rfl
     | cons j F =>
      exfalso
      obtain ⟨h0, h1, h2, h3, h4⟩ := hF j List.mem_cons_self
      obtain ⟨g0, g1, g2, g3, _⟩ := hg _ (rdT_mem h0 h1)
      have := cntF_set (m := met) (i := ((rd_T49 l j).f1).toNat) (by omega) h3
      omega
    subst hF0
    refine ⟨[], Ev.step (f := fun _ => some []) (fun k => ?_) (Ev.now _), Or.inl rfl⟩
    simp only [racewaylaw6_walked.l1]
    rw [if_neg (by omega), if_pos (show (([] : List Int).length : Int) = 0 from rfl)]) l.length 0 [] (by omega) (fun j h => by cases h) (Nat.le_refl _)
   refine ⟨r, Ev.step (fun k => ?_) hr, hq⟩
   simp only [racewaylaw6_walked.l0]
   rw [if_neg ht]
   rfl
 | succ c ih =>
  intro met at_ w hc hm hw hp hnd hj
  by_cases ht : at_ = t
  ·refine ⟨w, Ev.step (f := fun _ => some w) (fun k => ?_) (Ev.now _), Or.inr ⟨by rw [← ht]; exact hp, hnd, fun j h => ⟨(hj j h).1, (hj j h).2.1, (hj j h).2.2.1⟩⟩⟩
   simp only [racewaylaw6_walked.l0]
   rw [if_pos ht]
  ·obtain ⟨r, hr, hq⟩ := fit_run (n := n) (s := s) (t := t) (at_ := at_) (raw := raw) (w := w) hg hlen hl hm (GoodWalk l f s t) (fun F hF hFl => by
    by_cases hF0 : F.length = 0
    ·refine ⟨[], Ev.step (f := fun _ => some []) (fun k => ?_) (Ev.now _), Or.inl rfl⟩
     simp only [racewaylaw6_walked.l1]
     rw [if_neg (by omega), if_pos (by omega)]
    ·obtain ⟨d0, d1⟩ := tdiv_bounds r0 r1 (d := (w.length : Int) + 1) (by omega)
     obtain ⟨p0, p1⟩ := pk_range (c := Int.tdiv raw ((w.length : Int) + 1)) (n := (F.length : Int)) (by omega)
     obtain ⟨j, hjd⟩ : ∃ j, rd F (pk (Int.tdiv raw ((w.length : Int) + 1)) (F.length : Int)) = j := ⟨_, rfl⟩
     obtain ⟨h0, h1, h2, h3, h4⟩ := hF j (by rw [← hjd]; exact rd_mem p0 p1)
     obtain ⟨g0, g1, g2, g3, _⟩ := hg _ (rdT_mem h0 h1)
     have hcs := cntF_set (m := met) (i := ((rd_T49 l j).f1).toNat) (by omega) h3
     obtain ⟨r, hr, hq⟩ := ih (met.set ((rd_T49 l j).f1).toNat true) (rd_T49 l j).f1 (w ++ [j]) (by omega) (by rw [List.length_set]; exact hm) (by simp; omega) (Path.snoc hp h2)
      (by
       rw [List.nodup_append]
       refine ⟨hnd, by simp, fun a ha b hb => ?_⟩
       obtain rfl := List.mem_singleton.1 hb
       rintro rfl
       have := (hj a ha).2.2.2
       rw [this] at h3; cases h3)
      (fun i hi => by
       rcases List.mem_append.1 hi with hi | hi
       ·obtain ⟨q0, q1, q2, q3⟩ := hj i hi
        obtain ⟨_, _, k2, k3, _⟩ := hg _ (rdT_mem q0 q1)
        refine ⟨q0, q1, q2, ?_⟩
        rw [rdOf_set (by omega) (by omega) (by omega)]
        split
        ·rfl
        ·exact q3
       ·obtain rfl := List.mem_singleton.1 hi
        refine ⟨h0, h1, h4, ?_⟩
        rw [rdOf_set (by omega) (by omega) (by omega), if_pos rfl])
     refine ⟨r, Ev.step (fun k => ?_) hr, hq⟩
     simp only [racewaylaw6_walked.l1]
     rw [if_neg (by omega), if_neg (by omega), wrap_id (x := (w.length : Int) + 1) (by omega) (by omega), if_neg (by omega), wrap_id d0 d1, pick_eq d0 d1 (by omega)]
     simp only [Option.bind_some]
     rw [if_pos p0, if_pos p1, if_pos (by omega), hjd, if_pos h0, if_pos h1, if_pos (by omega), if_pos (by omega)]) l.length 0 [] (by omega) (fun j h => by cases h) (Nat.le_refl _)
   refine ⟨r, Ev.step (fun k => ?_) hr, hq⟩
   simp only [racewaylaw6_walked.l0]
   rw [if_neg ht]
   rfl
theorem walked_ev {n s t raw : Int} {l : List S49} {f : List Int} (R : Right n s t l) (hlen : f.length = l.length) (hraw : (Lit.int .i64 raw).wf = true) :
  ∃ w, Ev (fun k => racewaylaw6_walked.f k n s t l f raw) w ∧ GoodWalk l f s t w := by
 have hn := R.n500
 have hn2 := R.n2
 have hs1 := R.s1
 have hsn := R.sn
 have hl1 : (List.replicate (n + 1).toNat false).length = (n + 1).toNat := List.length_replicate
 have hc0 : (List.replicate (n + 1).toNat false).getD s.toNat false = false := by
  rw [List.getD_eq_getElem?_getD, List.getElem?_replicate]; split <;> rfl
 have hcs := cntF_set (m := List.replicate (n + 1).toNat false) (i := s.toNat) (by omega) hc0
 rw [cntF_replicate] at hcs
 obtain ⟨r, hr, hq⟩ := walk_run (n := n) (s := s) (t := t) (raw := raw) hraw R.arcs hlen R.len hn (cntF ((List.replicate (n + 1).toNat false).set s.toNat true)) ((List.replicate (n + 1).toNat false).set s.toNat true) s [] rfl (by simp; omega) (by simp; omega) rfl List.nodup_nil (fun j h => by cases h)
 refine ⟨r, Ev.congr (fun k => ?_) hr, hq⟩
 unfold racewaylaw6_walked.f
 rw [wrap_id (x := n + 1) (by omega) (by omega), if_pos (by omega), if_pos (by omega)]
 simp only [Option.bind_some]
 rw [if_pos (by omega), if_pos (by omega)]
/-- An amount led along a walk. -/
def push (f : List Int) (m : Int) : List Int → List Int
 | [] => f
 | j :: w => push (f.set j.toNat (rd f j + m)) m w
theorem push_rd {m : Int} : ∀ {w : List Int} {f : List Int}, (∀ j ∈ w, 0 ≤ j ∧ j < (f.length : Int)) → w.Nodup → ∀ i, 0 ≤ i → rd (push f m w) i = rd f i + if i ∈ w then m else 0
 | [], f, _, _, i, _ => by simp [push]
 | j :: w, f, h, hn, i, hi => by
  obtain ⟨h0, h1⟩ := h j List.mem_cons_self
  have hj := (List.nodup_cons.1 hn).1
  rw [push, push_rd (fun k hk => by rw [List.length_set]; exact h k (List.mem_cons_of_mem _ hk)) (List.nodup_cons.1 hn).2 i hi, rd_set h0 h1 hi]
  by_cases e : j = i
  ·subst e
   rw [if_pos rfl, if_neg hj, if_pos List.mem_cons_self]; omega
  ·rw [if_neg e]
   by_cases c : i ∈ w
   ·rw [if_pos c, if_pos (List.mem_cons_of_mem _ c)]
   ·rw [if_neg c, if_neg (fun hc => by rcases List.mem_cons.1 hc with hc | hc; exact e hc.symm; exact c hc)]
theorem rd_nat {f : List Int} {j : Int} (h0 : 0 ≤ j) (h1 : j < (f.length : Int)) (h : j.toNat < f.length) : f[j.toNat] = rd f j := by
 unfold rd; rw [List.getD_eq_getElem?_getD, List.getElem?_eq_getElem h]; rfl
theorem rdT_nat {l : List S49} {j : Int} (h0 : 0 ≤ j) (h1 : j < (l.length : Int)) (h : j.toNat < l.length) : l[j.toNat] = rd_T49 l j := by
 unfold rd_T49; rw [List.getD_eq_getElem?_getD, List.getElem?_eq_getElem h]; rfl
theorem push_within {l : List S49} {m : Int} (hm : 0 ≤ m) : ∀ {w : List Int} {f : List Int}, Within l f → w.Nodup → (∀ j ∈ w, 0 ≤ j ∧ j < (l.length : Int) ∧ rd f j + m ≤ (rd_T49 l j).f2) → Within l (push f m w)
 | [], f, W, _, _ => W
 | j :: w, f, W, hn, h => by
  obtain ⟨h0, h1, h2⟩ := h j List.mem_cons_self
  have hlen := W.len
  have hj := (List.nodup_cons.1 hn).1
  have hjl : j.toNat < l.length := by omega
  have hjf : j.toNat < f.length := by omega
  have hb := W.get j.toNat hjl hjf
  rw [rd_nat h0 (by omega) hjf, rdT_nat h0 h1 hjl] at hb
  rw [push]
  refine push_within hm (W.set j.toNat _ (by omega) (fun h' => by rw [rdT_nat h0 h1 h']; exact h2)) (List.nodup_cons.1 hn).2 (fun i hi => ?_)
  obtain ⟨q0, q1, q2⟩ := h i (List.mem_cons_of_mem _ hi)
  refine ⟨q0, q1, ?_⟩
  rw [rd_set h0 (by omega) q0, if_neg (fun e => hj (by rw [e]; exact hi))]
  exact q2
theorem push_exc {l : List S49} {m v : Int} : ∀ {w : List Int} {f : List Int} {a b : Int}, Path l a w b → f.length = l.length → (∀ j ∈ w, 0 ≤ j ∧ j < (l.length : Int)) →
  exc l (push f m w) v = exc l f v + ((if b = v then m else 0) - (if a = v then m else 0))
 | [], f, a, b, hp, _, _ => by
  have : a = b := hp
  subst this
  simp only [push]; omega
 | j :: w, f, a, b, hp, hlen, h => by
  obtain ⟨h0, h1⟩ := h j List.mem_cons_self
  obtain ⟨e0, hp⟩ := hp
  have hjl : j.toNat < l.length := by omega
  have hjf : j.toNat < f.length := by omega
  rw [push, push_exc hp (by rw [List.length_set]; exact hlen) (fun i hi => h i (List.mem_cons_of_mem _ hi)), exc_set j.toNat _ v hjl hjf, rd_nat h0 (by omega) hjf, rdT_nat h0 h1 hjl, e0]
  have e : rd f j + m - rd f j = m := by omega
  rw [e]; omega
/-- One more walk is led. -/
def Step (l : List S49) (s t : Int) (f g : List Int) : Prop :=
 g = f ∨ ∃ w m, 1 ≤ m ∧ Path l s w t ∧ w.Nodup ∧ (∀ j ∈ w, 0 ≤ j ∧ j < (l.length : Int) ∧ rd f j + m ≤ (rd_T49 l j).f2) ∧ g = push f m w
theorem Step.flow {n s t : Int} {l : List S49} {f g : List Int} (h : Step l s t f g) (F : IsFlow n s t l f) : IsFlow n s t l g := by
 rcases h with rfl | ⟨w, m, hm, hp, hn, hj, rfl⟩
 ·exact F
 ·refine ⟨push_within (by omega) F.within hn hj, fun v h1 h2 h3 h4 => ?_⟩
  rw [push_exc hp F.within.len (fun j h => ⟨(hj j h).1, (hj j h).2.1⟩), F.cons v h1 h2 h3 h4, if_neg (fun e => h4 e.symm), if_neg (fun e => h3 e.symm)]; rfl
theorem Step.le {n s t : Int} {l : List S49} {f g : List Int} (h : Step l s t f g) (F : IsFlow n s t l f) : ∀ i, 0 ≤ i → rd f i ≤ rd g i := by
 intro i hi
 rcases h with rfl | ⟨w, m, hm, hp, hn, hj, rfl⟩
 ·exact Int.le_refl _
 ·have hlen := F.within.len
  rw [push_rd (fun j h => ⟨(hj j h).1, by have := (hj j h).2.1; omega⟩) hn i hi]
  split <;> omega
theorem Step.value {n s t : Int} {l : List S49} {f g : List Int} (h : Step l s t f g) (F : IsFlow n s t l f) (hst : s ≠ t) : exc l f t ≤ exc l g t := by
 rcases h with rfl | ⟨w, m, hm, hp, hn, hj, rfl⟩
 ·exact Int.le_refl _
 ·rw [push_exc hp F.within.len (fun j h => ⟨(hj j h).1, (hj j h).2.1⟩), if_pos rfl, if_neg hst]; omega
theorem most_run {n s t : Int} {l : List S49} {f w : List Int} (W : Within l f) (hcap : ∀ a ∈ l, a.f2 < 1000000000000) (hj : ∀ j ∈ w, 0 ≤ j ∧ j < (l.length : Int) ∧ rd f j < (rd_T49 l j).f2) (hwl : w.length ≤ 1000000) (d : Nat) :
  ∀ (j : Nat) (m : Int), j + d = w.length → 1 ≤ m → (∀ q, q < j → ∀ h : q < w.length, rd f w[q] + m ≤ (rd_T49 l w[q]).f2) →
   ∃ m', 1 ≤ m' ∧ m' ≤ m ∧ (∀ q ∈ w, rd f q + m' ≤ (rd_T49 l q).f2) ∧ ∀ (raws : List Int) (i : Int) r, Ev (fun k => racewaylaw6_routed.l2 k raws f i w m' 0 n s t l) r → Ev (fun k => racewaylaw6_routed.l1 k raws f i w m (j : Int) n s t l) r := by
 have hlen := W.len
 induction d with
 | zero =>
  intro j m hjd hm hq
  refine ⟨m, hm, Int.le_refl _, fun q hq' => ?_, fun raws i r hr => Ev.step (fun k => ?_) hr⟩
  ·obtain ⟨p, hp, rfl⟩ := List.getElem_of_mem hq'
   exact hq p (by omega) hp
  ·simp only [racewaylaw6_routed.l1]
   rw [if_neg (by omega)]
 | succ d ih =>
  intro j m hjd hm hq
  have hjw : j < w.length := by omega
  obtain ⟨h0, h1, h2⟩ := hj w[j] (List.getElem_mem hjw)
  have hc := hcap _ (rdT_mem h0 h1)
  have hb := W.get (w[j]).toNat (by omega) (by omega)
  rw [rd_nat h0 (by omega) (by omega), rdT_nat h0 h1 (by omega)] at hb
  obtain ⟨x, hx⟩ : ∃ x, (rd_T49 l w[j]).f2 - rd f w[j] = x := ⟨_, rfl⟩
  have hmn : 1 ≤ mn m x ∧ mn m x ≤ m ∧ mn m x ≤ x := by unfold mn; split <;> omega
  obtain ⟨m', g0, g1, g2, g3⟩ := ih (j + 1) (mn m x) (by omega) hmn.1 (fun q hqj hqw => by
   by_cases e : q = j
   ·subst e; omega
   ·have := hq q (by omega) hqw; omega)
  refine ⟨m', g0, by omega, g2, fun raws i r hr => Ev.step (fun k => ?_) (g3 raws i r hr)⟩
  simp only [racewaylaw6_routed.l1]
  rw [if_pos (by omega), if_pos (by omega), rd_get hjw, if_pos h0, if_pos h1, if_pos (by omega), wrap_id (by omega) (by omega), hx, wrap_succ (by omega)]
theorem push_run {n s t m : Int} {l : List S49} {raws w : List Int} {i : Nat} (hi : i ≤ 1000) (hm : 1 ≤ m) (hm2 : m ≤ 1000000000000) (hcap : ∀ a ∈ l, a.f2 < 1000000000000) (hwl : w.length ≤ 1000000) (d : Nat) :
  ∀ (j : Nat) (f : List Int), j + d = w.length → Within l f → (w.drop j).Nodup → (∀ q ∈ w.drop j, 0 ≤ q ∧ q < (l.length : Int) ∧ rd f q + m ≤ (rd_T49 l q).f2) →
   ∀ r, Ev (fun k => racewaylaw6_routed.l0 k raws (push f m (w.drop j)) ((i + 1 : Nat) : Int) n s t l) r → Ev (fun k => racewaylaw6_routed.l2 k raws f (i : Int) w m (j : Int) n s t l) r := by
 induction d with
 | zero =>
  intro j f hjd W _ _ r hr
  rw [List.drop_of_length_le (by omega), push] at hr
  refine Ev.step (fun k => ?_) hr
  simp only [racewaylaw6_routed.l2]
  rw [if_neg (by omega), wrap_succ (by omega)]
 | succ d ih =>
  intro j f hjd W hn hq r hr
  have hjw : j < w.length := by omega
  have hlen := W.len
  rw [List.drop_eq_getElem_cons hjw] at hn hq hr
  obtain ⟨h0, h1, h2⟩ := hq w[j] List.mem_cons_self
  have hc := hcap _ (rdT_mem h0 h1)
  have hb := W.get (w[j]).toNat (by omega) (by omega)
  rw [rd_nat h0 (by omega) (by omega), rdT_nat h0 h1 (by omega)] at hb
  have hnot := (List.nodup_cons.1 hn).1
  rw [push] at hr
  refine Ev.step (fun k => ?_) (ih (j + 1) (f.set (w[j]).toNat (rd f w[j] + m)) (by omega) (W.set _ _ (by omega) (fun h' => by rw [rdT_nat h0 h1 h']; exact h2)) (List.nodup_cons.1 hn).2 (fun q hq' => by
   obtain ⟨q0, q1, q2⟩ := hq q (List.mem_cons_of_mem _ hq')
   refine ⟨q0, q1, ?_⟩
   rw [rd_set h0 (by omega) q0, if_neg (fun e => hnot (by rw [e]; exact hq'))]
   exact q2) r hr)
  simp only [racewaylaw6_routed.l2]
  rw [if_pos (by omega), if_pos (by omega), rd_get hjw, if_pos h0, if_pos (by omega), wrap_id (by omega) (by omega), wrap_succ (by omega)]
theorem nodup_bound : ∀ {k : Nat} {w : List Int}, w.Nodup → (∀ j ∈ w, 0 ≤ j ∧ j < (k : Int)) → w.length ≤ k
 | 0, [], _, _ => Nat.le_refl _
 | 0, j :: _, _, h => by have := h j List.mem_cons_self; omega
 | k + 1, w, hn, h => by
  have h1 : (w.erase (k : Int)).length ≤ k := nodup_bound (hn.erase _) (fun j hj => by
   have hjw := List.mem_of_mem_erase hj
   have := h j hjw
   have hne : j ≠ (k : Int) := fun e => by
    rw [e] at hj
    exact (List.Nodup.not_mem_erase hn) hj
   omega)
  have h2 := List.length_erase_le (a := (k : Int)) (l := w)
  have h3 : w.length ≤ (w.erase (k : Int)).length + 1 := by
   rw [List.length_erase]; split <;> omega
  omega
/-- One round of routed. -/
theorem step_ev {n s t raw : Int} {l : List S49} {f : List Int} (R : Right n s t l) (hcap : ∀ a ∈ l, a.f2 < 1000000000000) (W : Within l f) (hraw : (Lit.int .i64 raw).wf = true) :
  ∃ g, Step l s t f g ∧ ∀ (raws : List Int) (i : Nat), i < 8 → i < raws.length → rd raws (i : Int) = raw →
   ∀ r, Ev (fun k => racewaylaw6_routed.l0 k raws g ((i + 1 : Nat) : Int) n s t l) r → Ev (fun k => racewaylaw6_routed.l0 k raws f (i : Int) n s t l) r := by
 obtain ⟨w, hw, hgood⟩ := walked_ev (f := f) (raw := raw) R W.len hraw
 obtain ⟨r0, r1⟩ := wf_bounds hraw
 have p := pk_range (c := raw) (n := 30) (by omega)
 have hl := R.len
 have hwp : (∀ j ∈ w, 0 ≤ j ∧ j < (l.length : Int) ∧ rd f j < (rd_T49 l j).f2) ∧ w.Nodup := by
  rcases hgood with rfl | ⟨_, h1, h2⟩
  ·exact ⟨(fun j hj => by cases hj), List.nodup_nil⟩
  ·exact ⟨h2, h1⟩
 have hwl := nodup_bound hwp.2 (fun j hj => ⟨(hwp.1 j hj).1, (hwp.1 j hj).2.1⟩)
 obtain ⟨m, m0, m1, m2, m3⟩ := most_run (n := n) (s := s) (t := t) W hcap hwp.1 (by omega) w.length 0 (pk raw 30 + 1) (by omega) (by omega) (fun q hq => by omega)
 refine ⟨push f m w, ?_, fun raws i hi hir hrr r hr => ?_⟩
 ·rcases hgood with rfl | ⟨hp, h1, h2⟩
  ·exact Or.inl rfl
  ·exact Or.inr ⟨w, m, m0, hp, h1, fun j hj => ⟨(hwp.1 j hj).1, (hwp.1 j hj).2.1, m2 j hj⟩, rfl⟩
 ·have h2 := push_run (n := n) (s := s) (t := t) (m := m) (raws := raws) (w := w) (i := i) (by omega) m0 (by omega) hcap (by omega) w.length 0 f (by omega) W (by rw [List.drop_zero]; exact hwp.2) (by rw [List.drop_zero]; exact fun q hq => ⟨(hwp.1 q hq).1, (hwp.1 q hq).2.1, m2 q hq⟩) r (by rw [List.drop_zero]; exact hr)
  have h1 := m3 raws (i : Int) r h2
  refine Ev.step (f := fun k => racewaylaw6_routed.j1 k raws f (i : Int) true n s t l) (fun k => ?_) (Ev.step (f := fun k => (racewaylaw6_walked.f k n s t l f raw).bind fun w => (racewaylaw6_pick.f raw 30).bind fun p => racewaylaw6_routed.l1 k raws f (i : Int) w (wrap64 (p + 1)) 0 n s t l) (fun k => ?_) (Ev.bind hw (Ev.congr (fun k => ?_) h1)))
  ·simp only [racewaylaw6_routed.l0]
   rw [if_pos (by omega), decide_eq_true (by omega)]
  ·simp only [racewaylaw6_routed.j1, if_true]
   rw [if_pos (by omega), if_pos (by omega), hrr]
  ·rw [pick_eq r0 r1 (by omega)]
   simp only [Option.bind_some]
   rw [wrap_id (by omega) (by omega)]
   rfl
theorem steps_ev {n s t : Int} {l : List S49} (R : Right n s t l) (hcap : ∀ a ∈ l, a.f2 < 1000000000000) {raws : List Int} (hraws : ∀ x ∈ raws, (Lit.int .i64 x).wf = true) (d : Nat) :
  ∀ (i : Nat) (f : List Int), i + d = min raws.length 8 → IsFlow n s t l f → ∃ g, IsFlow n s t l g ∧ (∀ j, 0 ≤ j → rd f j ≤ rd g j) ∧ exc l f t ≤ exc l g t ∧ Ev (fun k => racewaylaw6_routed.l0 k raws f (i : Int) n s t l) g := by
 induction d with
 | zero =>
  intro i f hi F
  refine ⟨f, F, fun _ _ => Int.le_refl _, Int.le_refl _, ?_⟩
  refine Ev.step (f := fun k => racewaylaw6_routed.j1 k raws f (i : Int) false n s t l) (fun k => ?_) (Ev.step (f := fun _ => some f) (fun k => ?_) (Ev.now _))
  ·simp only [racewaylaw6_routed.l0]
   by_cases c : (i : Int) < (raws.length : Int)
   ·rw [if_pos c, decide_eq_false (by omega)]
   ·rw [if_neg c]
  ·simp [racewaylaw6_routed.j1]
 | succ d ih =>
  intro i f hi F
  have hir : i < raws.length := by omega
  obtain ⟨g, hs, hg⟩ := step_ev (raw := rd raws (i : Int)) R hcap F.within (hraws _ (rd_mem (by omega) (by omega)))
  obtain ⟨h, H1, H2, H3, H4⟩ := ih (i + 1) g (by omega) (hs.flow F)
  exact ⟨h, H1, fun j hj => Int.le_trans (hs.le F j hj) (H2 j hj), Int.le_trans (hs.value F R.ne) H3, hg raws i (by omega) hir rfl h H4⟩
/-- What routed leads is a flow. -/
theorem routed_ev {n s t : Int} {l : List S49} (R : Right n s t l) (hcap : ∀ a ∈ l, a.f2 < 1000000000000) {raws : List Int} (hraws : ∀ x ∈ raws, (Lit.int .i64 x).wf = true) :
  ∃ g, IsFlow n s t l g ∧ 0 ≤ exc l g t ∧ Ev (fun k => racewaylaw6_routed.f k n s t l raws) g := by
 have hl := R.len
 obtain ⟨g, h1, _, h2, h3⟩ := steps_ev R hcap hraws (min raws.length 8) 0 (List.replicate l.length 0) (by omega) (IsFlow.zeros R.arcs)
 rw [exc_zeros] at h2
 refine ⟨g, h1, h2, Ev.congr (fun k => ?_) h3⟩
 unfold racewaylaw6_routed.f
 rw [if_pos (by omega), if_pos (by omega)]
 rfl
theorem same_loop {a b : List Int} (hl : a.length = b.length) (hm : a.length ≤ 1000000) (d : Nat) : ∀ i : Nat, i + d = a.length → Ev (fun k => racewayref5_Same.l0 k a b (i : Int)) (decide (a.drop i = b.drop i)) := by
 induction d with
 | zero =>
  intro i hi
  refine Ev.step (f := fun _ => some (decide (a.drop i = b.drop i))) (fun k => ?_) (Ev.now _)
  simp only [racewayref5_Same.l0]
  rw [if_neg (by omega), List.drop_of_length_le (by omega), List.drop_of_length_le (by omega)]
  simp
 | succ d ih =>
  intro i hi
  have hia : i < a.length := by omega
  have hib : i < b.length := by omega
  by_cases c : a[i] = b[i]
  ·have e : decide (a.drop i = b.drop i) = decide (a.drop (i + 1) = b.drop (i + 1)) := by
    have e3 : (a.drop i = b.drop i) ↔ (a.drop (i + 1) = b.drop (i + 1)) := by
     rw [List.drop_eq_getElem_cons hia, List.drop_eq_getElem_cons hib, c]
     exact ⟨fun h => (List.cons.inj h).2, fun h => by rw [h]⟩
    exact decide_eq_decide.2 e3
   rw [e]
   refine Ev.step (fun k => ?_) (ih (i + 1) (by omega))
   simp only [racewayref5_Same.l0]
   rw [if_pos (by omega), if_pos (by omega), if_pos (by omega), rd_get hia, rd_get hib, if_pos c, wrap_id (by omega) (by omega)]
   rfl
  ·have e : decide (a.drop i = b.drop i) = false := by
    refine decide_eq_false (fun h => c ?_)
    rw [List.drop_eq_getElem_cons hia, List.drop_eq_getElem_cons hib] at h
    exact (List.cons.inj h).1
   rw [e]
   refine Ev.step (f := fun _ => some false) (fun k => ?_) (Ev.now _)
   simp only [racewayref5_Same.l0]
   rw [if_pos (by omega), if_pos (by omega), if_pos (by omega), rd_get hia, rd_get hib, if_neg c]
theorem same_ev (a b : List Int) (hm : a.length ≤ 1000000) : Ev (fun k => racewayref5_Same.f k a b) (decide (a = b)) := by
 by_cases hl : a.length = b.length
 ·have := same_loop hl hm a.length 0 (by omega)
  rw [List.drop_zero, List.drop_zero] at this
  refine Ev.congr (fun k => ?_) this
  unfold racewayref5_Same.f
  rw [if_pos (by omega)]
  rfl
 ·have e : decide (a = b) = false := decide_eq_false (fun h => hl (by rw [h]))
  rw [e]
  refine Ev.congr (fun k => ?_) (Ev.now _)
  unfold racewayref5_Same.f
  rw [if_neg (by omega)]
/-! Residual tracks: r leads along arc r/2, backwards where r is odd. -/
theorem bit_odd {r : Int} (h0 : 0 ≤ r) (h1 : r ≤ 1000000) : Go.bits .and .i64 r 1 = r % 2 := by
 obtain ⟨i, rfl⟩ : ∃ i : Nat, r = (i : Int) := ⟨r.toNat, by omega⟩
 rw [Go.Proofs.and_one i (by omega)]; omega
theorem tdiv2 {r : Int} (h0 : 0 ≤ r) : Int.tdiv r 2 = r / 2 := Int.tdiv_eq_ediv_of_nonneg h0
def fromOf (l : List S49) (r : Int) : Int := if r % 2 = 1 then (rd_T49 l (r / 2)).f1 else (rd_T49 l (r / 2)).f0
def toOf (l : List S49) (r : Int) : Int := if r % 2 = 1 then (rd_T49 l (r / 2)).f0 else (rd_T49 l (r / 2)).f1
def InR (l : List S49) (r : Int) : Prop := 0 ≤ r ∧ r < 2 * (l.length : Int)
theorem ends_ev {n s t r : Int} {l : List S49} (h : InR l r) (hl : l.length ≤ 2000) : Ev (fun k => residual_Ends.f k n s t l r) (fromOf l r, toOf l r) := by
 obtain ⟨h0, h1⟩ := h
 have hd : wrap64 (Int.tdiv r 2) = r / 2 := by rw [tdiv2 h0, wrap_id (by omega) (by omega)]
 have e : Ev (fun k => residual_Ends.j0 k r (decide (wrap64 (Int.tdiv r 2) ≥ (l.length : Int))) n s t l) (fromOf l r, toOf l r) := by
  refine Ev.step (f := fun _ => some (fromOf l r, toOf l r)) (fun k => ?_) (Ev.now _)
  simp only [residual_Ends.j0, hd, bit_odd h0 (show r ≤ 1000000 by omega)]
  rw [if_neg (by simp; omega), if_pos (by omega), if_pos (by omega)]
  unfold fromOf toOf
  by_cases c : r % 2 = 1
  ·rw [if_pos c, if_pos c, if_pos c]
  ·rw [if_neg c, if_neg c, if_neg c]
 refine Ev.congr (fun k => ?_) e
 unfold residual_Ends.f
 rw [if_neg (by omega)]
theorem ends_range {n : Int} {l : List S49} {r : Int} (hg : ∀ a ∈ l, GoodArc n a) (h : InR l r) : 1 ≤ fromOf l r ∧ fromOf l r ≤ n ∧ 1 ≤ toOf l r ∧ toOf l r ≤ n := by
 obtain ⟨h0, h1⟩ := h
 obtain ⟨g0, g1, g2, g3, _⟩ := hg _ (rdT_mem (l := l) (i := r / 2) (by omega) (by omega))
 unfold fromOf toOf
 split <;> omega
theorem from_loop {n : Int} {l : List S49} {v : Int} (hl : l.length ≤ 2000) (d : Nat) : ∀ (i : Nat) (T : List Int), i + d = l.length → T.length ≤ 2 * i → (∀ r ∈ T, InR l r ∧ fromOf l r = v) →
  ∃ T', Ev (fun k => residual_From.l0 k v T l (l.length : Int) (i : Int)) T' ∧ T'.length ≤ 2 * l.length ∧ ∀ r ∈ T', InR l r ∧ fromOf l r = v := by
 induction d with
 | zero =>
  intro i T hi hT h
  refine ⟨T, Ev.step (f := fun _ => some T) (fun k => ?_) (Ev.now _), by omega, h⟩
  simp only [residual_From.l0]
  rw [if_neg (by omega)]
 | succ d ih =>
  intro i T hi hT h
  have hil : i < l.length := by omega
  have e0 : wrap64 (2 * (i : Int)) = 2 * (i : Int) := wrap_id (by omega) (by omega)
  have e1 : wrap64 (2 * (i : Int) + 1) = 2 * (i : Int) + 1 := wrap_id (by omega) (by omega)
  have q0 : InR l (2 * (i : Int)) := ⟨by omega, by omega⟩
  have q1 : InR l (2 * (i : Int) + 1) := ⟨by omega, by omega⟩
  have f0 : fromOf l (2 * (i : Int)) = (rd_T49 l (i : Int)).f0 := by
   unfold fromOf
   rw [if_neg (by omega), show (2 * (i : Int)) / 2 = (i : Int) by omega]
  have f1 : fromOf l (2 * (i : Int) + 1) = (rd_T49 l (i : Int)).f1 := by
   unfold fromOf
   rw [if_pos (by omega), show (2 * (i : Int) + 1) / 2 = (i : Int) by omega]
  by_cases c0 : (rd_T49 l (i : Int)).f0 = v
  ·have h2 : ∀ r ∈ T ++ [2 * (i : Int)], InR l r ∧ fromOf l r = v := fun r hr => by
    rcases List.mem_append.1 hr with hr | hr
    ·exact h r hr
    ·obtain rfl := List.mem_singleton.1 hr
     exact ⟨q0, by rw [f0]; exact c0⟩
   by_cases c1 : (rd_T49 l (i : Int)).f1 = v
   ·obtain ⟨T', hT', g⟩ := ih (i + 1) ((T ++ [2 * (i : Int)]) ++ [2 * (i : Int) + 1]) (by omega) (by simp; omega) (fun r hr => by
     rcases List.mem_append.1 hr with hr | hr
     ·exact h2 r hr
     ·obtain rfl := List.mem_singleton.1 hr
      exact ⟨q1, by rw [f1]; exact c1⟩)
    refine ⟨T', Ev.step (fun k => ?_) hT', g⟩
    simp only [residual_From.l0, e0, e1]
    rw [if_pos (by omega), if_pos (by omega), if_pos (by omega), if_pos c0, if_pos (by omega)]
    simp only [Option.bind_some]
    rw [if_pos c1, if_pos (by simp; omega), wrap_succ (by omega)]
   ·obtain ⟨T', hT', g⟩ := ih (i + 1) (T ++ [2 * (i : Int)]) (by omega) (by simp; omega) h2
    refine ⟨T', Ev.step (fun k => ?_) hT', g⟩
    simp only [residual_From.l0, e0, e1]
    rw [if_pos (by omega), if_pos (by omega), if_pos (by omega), if_pos c0, if_pos (by omega)]
    simp only [Option.bind_some]
    rw [if_neg c1, wrap_succ (by omega)]
  ·by_cases c1 : (rd_T49 l (i : Int)).f1 = v
   ·obtain ⟨T', hT', g⟩ := ih (i + 1) (T ++ [2 * (i : Int) + 1]) (by omega) (by simp; omega) (fun r hr => by
     rcases List.mem_append.1 hr with hr | hr
     ·exact h r hr
     ·obtain rfl := List.mem_singleton.1 hr
      exact ⟨q1, by rw [f1]; exact c1⟩)
    refine ⟨T', Ev.step (fun k => ?_) hT', g⟩
    simp only [residual_From.l0, e0, e1]
    rw [if_pos (by omega), if_pos (by omega), if_pos (by omega), if_neg c0, if_pos c1, if_pos (by omega), wrap_succ (by omega)]
   ·obtain ⟨T', hT', g⟩ := ih (i + 1) T (by omega) (by omega) h
    refine ⟨T', Ev.step (fun k => ?_) hT', g⟩
    simp only [residual_From.l0, e0, e1]
    rw [if_pos (by omega), if_pos (by omega), if_pos (by omega), if_neg c0, if_neg c1, wrap_succ (by omega)]
theorem from_ev {n s t v : Int} {l : List S49} (hl : l.length ≤ 2000) : ∃ T, Ev (fun k => residual_From.f k n s t l v) T ∧ T.length ≤ 2 * l.length ∧ ∀ r ∈ T, InR l r ∧ fromOf l r = v :=
 from_loop (n := n) hl l.length 0 [] (by omega) (by simp) (fun r h => by cases h)
/-- A walk along residual tracks. -/
def RPath (l : List S49) : Int → List Int → Int → Prop
 | u, [], v => u = v
 | u, r :: w, v => fromOf l r = u ∧ RPath l (toOf l r) w v
theorem RPath.snoc {l : List S49} : ∀ {w : List Int} {u v r : Int}, RPath l u w v → fromOf l r = v → RPath l u (w ++ [r]) (toOf l r)
 | [], u, v, r, h, hr => ⟨by rw [hr]; exact h.symm, rfl⟩
 | _ :: w, u, v, r, h, hr => ⟨h.1, RPath.snoc h.2 hr⟩
/-- What an amount m means for the arc. -/
def rm (r m : Int) : Int := if r % 2 = 1 then -m else m
def rpush (f : List Int) (m : Int) : List Int → List Int
 | [] => f
 | r :: w => rpush (f.set (r / 2).toNat (rd f (r / 2) + rm r m)) m w
theorem rpush_length (m : Int) : ∀ (w : List Int) (f : List Int), (rpush f m w).length = f.length
 | [], _ => rfl
 | r :: w, f => by rw [rpush, rpush_length m w, List.length_set]
def dm (m i : Int) : List Int → Int
 | [] => 0
 | r :: w => (if r / 2 = i then rm r m else 0) + dm m i w
theorem dm_not {m i : Int} : ∀ {w : List Int}, i ∉ w.map (· / 2) → dm m i w = 0
 | [], _ => rfl
 | r :: w, h => by
  simp only [List.map_cons, List.mem_cons, not_or] at h
  simp only [dm, dm_not h.2]
  rw [if_neg (fun e => h.1 e.symm)]; rfl
theorem dm_in {m : Int} : ∀ {w : List Int}, (w.map (· / 2)).Nodup → ∀ r ∈ w, dm m (r / 2) w = rm r m
 | [], _, r, h => by cases h
 | q :: w, hn, r, h => by
  simp only [List.map_cons, List.nodup_cons] at hn
  simp only [dm]
  rcases List.mem_cons.1 h with rfl | h
  ·rw [if_pos rfl, dm_not hn.1]; omega
  ·rw [if_neg (fun e => hn.1 (by rw [e]; exact List.mem_map_of_mem h)), dm_in hn.2 r h]; omega
theorem rpush_rd {m : Int} : ∀ {w : List Int} {f : List Int}, (∀ r ∈ w, 0 ≤ r ∧ r < 2 * (f.length : Int)) → ∀ i, 0 ≤ i → rd (rpush f m w) i = rd f i + dm m i w
 | [], f, _, i, _ => by simp [rpush, dm]
 | r :: w, f, h, i, hi => by
  obtain ⟨h0, h1⟩ := h r List.mem_cons_self
  rw [rpush, rpush_rd (fun q hq => by rw [List.length_set]; exact h q (List.mem_cons_of_mem _ hq)) i hi, rd_set (by omega) (by omega) hi]
  simp only [dm]
  by_cases e : r / 2 = i
  ·rw [if_pos e, if_pos e, e]; omega
  ·rw [if_neg e, if_neg e]; omega
theorem rd_ext {f g : List Int} (hl : f.length = g.length) (h : ∀ i, 0 ≤ i → rd f i = rd g i) : f = g := by
 refine List.ext_getElem hl (fun i h1 h2 => ?_)
 have := h (i : Int) (by omega)
 rwa [rd_get h1, rd_get h2] at this
/-- The amount m fits along the walk. -/
def Fits (l : List S49) (f : List Int) (m : Int) (w : List Int) : Prop := ∀ r ∈ w, 0 ≤ rd f (r / 2) + rm r m ∧ rd f (r / 2) + rm r m ≤ (rd_T49 l (r / 2)).f2
theorem within_rd {l : List S49} {f : List Int} (W : Within l f) {i : Int} (h0 : 0 ≤ i) (h1 : i < (l.length : Int)) : 0 ≤ rd f i ∧ rd f i ≤ (rd_T49 l i).f2 := by
 have hlen := W.len
 have hb := W.get i.toNat (by omega) (by omega)
 rwa [rd_nat h0 (by omega) (by omega), rdT_nat h0 h1 (by omega)] at hb
theorem within_of_rd {l : List S49} {f : List Int} (hlen : f.length = l.length) (h : ∀ i, 0 ≤ i → i < (l.length : Int) → 0 ≤ rd f i ∧ rd f i ≤ (rd_T49 l i).f2) : Within l f :=
 Within.of hlen (fun i h1 h2 => by have := h (i : Int) (by omega) (by omega); rwa [rd_get h2, rdT_get h1] at this)
theorem rpush_within {l : List S49} {f w : List Int} {m : Int} (W : Within l f) (hw : ∀ r ∈ w, InR l r) (hn : (w.map (· / 2)).Nodup) (h : Fits l f m w) : Within l (rpush f m w) := by
 have hlen := W.len
 refine within_of_rd (by rw [rpush_length]; exact hlen) (fun i h0 h1 => ?_)
 rw [rpush_rd (fun r hr => by have := hw r hr; unfold InR at this; omega) i h0]
 by_cases c : i ∈ w.map (· / 2)
 ·obtain ⟨r, hr, rfl⟩ := List.mem_map.1 c
  rw [dm_in hn r hr]; exact h r hr
 ·rw [dm_not c]
  have := within_rd W h0 h1
  omega
theorem rpush_exc {l : List S49} {m v : Int} : ∀ {w : List Int} {f : List Int} {a b : Int}, RPath l a w b → f.length = l.length → (∀ r ∈ w, InR l r) →
  exc l (rpush f m w) v = exc l f v + ((if b = v then m else 0) - (if a = v then m else 0))
 | [], f, a, b, hp, _, _ => by
  have : a = b := hp
  subst this
  simp only [rpush]; omega
 | r :: w, f, a, b, hp, hlen, h => by
  obtain ⟨h0, h1⟩ := h r List.mem_cons_self
  obtain ⟨e0, hp⟩ := hp
  have hjl : (r / 2).toNat < l.length := by omega
  have hjf : (r / 2).toNat < f.length := by omega
  rw [rpush, rpush_exc hp (by rw [List.length_set]; exact hlen) (fun i hi => h i (List.mem_cons_of_mem _ hi)), exc_set (r / 2).toNat _ v hjl hjf, rd_nat (by omega) (by omega) hjf, rdT_nat (by omega) (by omega) hjl, ← e0]
  have e : rd f (r / 2) + rm r m - rd f (r / 2) = rm r m := by omega
  rw [e]
  unfold fromOf toOf rm
  by_cases c : r % 2 = 1
  ·rw [if_pos c, if_pos c, if_pos c]
   split <;> split <;> split <;> omega
  ·rw [if_neg c, if_neg c, if_neg c]
   split <;> split <;> split <;> omega
theorem rpush_flow {n s t m : Int} {l : List S49} {f w : List Int} (F : IsFlow n s t l f) (hp : RPath l s w t) (hw : ∀ r ∈ w, InR l r) (hn : (w.map (· / 2)).Nodup) (h : Fits l f m w) : IsFlow n s t l (rpush f m w) :=
 ⟨rpush_within F.within hw hn h, fun v h1 h2 h3 h4 => by
  rw [rpush_exc hp F.within.len hw, F.cons v h1 h2 h3 h4, if_neg (fun e => h4 e.symm), if_neg (fun e => h3 e.symm)]; rfl⟩
/-- The second loop of Push. -/
theorem push_set {l : List S49} {n s t m : Int} {w : List Int} (hw : ∀ r ∈ w, InR l r) (hl : l.length ≤ 2000) (hwl : w.length ≤ 1000000) (hm : 1 ≤ m) (hm2 : m ≤ 2000000000000) (hcap : ∀ a ∈ l, a.f2 < 1000000000000) (d : Nat) :
  ∀ (j : Nat) (f : List Int), j + d = w.length → Within l f → ((w.drop j).map (· / 2)).Nodup →
   (Fits l f m (w.drop j) → Ev (fun k => residual_Push.l1 k f m w (w.length : Int) (j : Int) n s t l) (rpush f m (w.drop j), 0)) ∧
   (¬ Fits l f m (w.drop j) → Ev (fun k => residual_Push.l1 k f m w (w.length : Int) (j : Int) n s t l) ([], 9)) := by
 induction d with
 | zero =>
  intro j f hj W hn
  rw [List.drop_of_length_le (by omega)]
  refine ⟨fun _ => Ev.step (f := fun _ => some (f, 0)) (fun k => ?_) (Ev.now _), fun h => absurd (fun r hr => by cases hr) h⟩
  simp only [residual_Push.l1]
  rw [if_neg (by omega)]
 | succ d ih =>
  intro j f hj W hn
  have hjw : j < w.length := by omega
  have hlen := W.len
  rw [List.drop_eq_getElem_cons hjw] at hn ⊢
  obtain ⟨r, hr⟩ : ∃ r, w[j] = r := ⟨_, rfl⟩
  rw [hr] at hn ⊢
  obtain ⟨h0, h1⟩ := hw r (by rw [← hr]; exact List.getElem_mem hjw)
  have hrd : rd w (j : Int) = r := by rw [rd_get hjw, hr]
  simp only [List.map_cons, List.nodup_cons] at hn
  have hc := hcap _ (rdT_mem (l := l) (i := r / 2) (by omega) (by omega))
  have hb := within_rd W (i := r / 2) (by omega) (by omega)
  have hd : wrap64 (Int.tdiv r 2) = r / 2 := by rw [tdiv2 h0, wrap_id (by omega) (by omega)]
  obtain ⟨x, hx⟩ : ∃ x, rd f (r / 2) = x := ⟨_, rfl⟩
  obtain ⟨c, hcc⟩ : ∃ c, (rd_T49 l (r / 2)).f2 = c := ⟨_, rfl⟩
  rw [hx, hcc] at hb
  rw [hcc] at hc
  have hrm : (r % 2 = 1 ∧ rm r m = -m) ∨ (¬ r % 2 = 1 ∧ rm r m = m) := by unfold rm; by_cases e : r % 2 = 1 <;> simp [e]
  have key : ∀ f', f' = f.set (r / 2).toNat (x + rm r m) → (0 ≤ x + rm r m ∧ x + rm r m ≤ c) → (Fits l f' m (w.drop (j + 1)) ↔ Fits l f m (w.drop (j + 1))) := fun f' e _ => by
   have z : ∀ q ∈ w.drop (j + 1), rd f' (q / 2) = rd f (q / 2) := fun q hq => by
    have hq0 := hw q (List.mem_of_mem_drop hq)
    have hq0 := hq0.1
    rw [e, rd_set (by omega) (by omega) (by omega), if_neg (fun e => hn.1 (by rw [e]; exact List.mem_map_of_mem hq))]
   exact ⟨fun h q hq => by rw [← z q hq]; exact h q hq, fun h q hq => by rw [z q hq]; exact h q hq⟩
  have go : (0 ≤ x + rm r m ∧ x + rm r m ≤ c) → ∀ res, Ev (fun k => residual_Push.l1 k (f.set (r / 2).toNat (x + rm r m)) m w (w.length : Int) ((j + 1 : Nat) : Int) n s t l) res → Ev (fun k => residual_Push.l1 k f m w (w.length : Int) (j : Int) n s t l) res := fun hf res hres => by
   refine Ev.step (fun k => ?_) hres
   simp only [residual_Push.l1, hrd, hd, bit_odd h0 (show r ≤ 1000000 by omega), hx, hcc]
   rw [if_pos (by omega), if_pos (by omega), if_pos (by omega)]
   rcases hrm with ⟨e, e'⟩ | ⟨e, e'⟩
   ·rw [e'] at hf ⊢
    rw [if_pos e, if_pos (by omega), if_pos (by omega), if_pos (by omega), wrap_id (x := -m) (by omega) (by omega), wrap_id (x := c - -m) (by omega) (by omega), if_neg (by omega), wrap_id (x := - -m) (by omega) (by omega), if_neg (by omega), wrap_id (x := x + -m) (by omega) (by omega), wrap_succ (by omega)]
   ·rw [e'] at hf ⊢
    rw [if_neg e, if_pos (by omega), if_pos (by omega), if_pos (by omega), wrap_id (x := c - m) (by omega) (by omega), if_neg (by omega), wrap_id (x := -m) (by omega) (by omega), if_neg (by omega), wrap_id (x := x + m) (by omega) (by omega), wrap_succ (by omega)]
  by_cases hf : 0 ≤ x + rm r m ∧ x + rm r m ≤ c
  ·have W' : Within l (f.set (r / 2).toNat (x + rm r m)) := W.set _ _ hf.1 (fun h' => by rw [rdT_nat (by omega) (by omega) h', hcc]; exact hf.2)
   obtain ⟨a, b⟩ := ih (j + 1) _ (by omega) W' hn.2
   refine ⟨fun h => ?_, fun h => ?_⟩
   ·have := a ((key _ rfl hf).2 (fun q hq => h q (List.mem_cons_of_mem _ hq)))
    rw [rpush, hx]
    exact go hf _ this
   ·refine go hf _ (b (fun h' => h (fun q hq => ?_)))
    rcases List.mem_cons.1 hq with rfl | hq
    ·rw [hx, hcc]; exact hf
    ·exact (key _ rfl hf).1 h' q hq
  ·refine ⟨fun h => absurd (by have := h r List.mem_cons_self; rwa [hx, hcc] at this) hf, fun _ => Ev.step (f := fun _ => some ([], 9)) (fun k => ?_) (Ev.now _)⟩
   simp only [residual_Push.l1, hrd, hd, bit_odd h0 (show r ≤ 1000000 by omega), hx, hcc]
   rw [if_pos (by omega), if_pos (by omega), if_pos (by omega)]
   rcases hrm with ⟨e, e'⟩ | ⟨e, e'⟩
   ·rw [e'] at hf
    rw [if_pos e, if_pos (by omega), if_pos (by omega), if_pos (by omega), wrap_id (x := -m) (by omega) (by omega), wrap_id (x := c - -m) (by omega) (by omega), wrap_id (x := - -m) (by omega) (by omega)]
    by_cases e2 : x > c - -m
    ·rw [if_pos e2]
    ·rw [if_neg e2, if_pos (by omega)]
   ·rw [e'] at hf
    rw [if_neg e, if_pos (by omega), if_pos (by omega), if_pos (by omega), wrap_id (x := c - m) (by omega) (by omega), wrap_id (x := -m) (by omega) (by omega)]
    by_cases e2 : x > c - m
    ·rw [if_pos e2]
    ·rw [if_neg e2, if_pos (by omega)]
/-- The first loop of Push. -/
theorem push_walk {l : List S49} {n s t m : Int} {f w : List Int} (hg : ∀ a ∈ l, GoodArc n a) (hw : ∀ r ∈ w, InR l r) (hl : l.length ≤ 2000) (hwl : w.length ≤ 1000000) (hst : s ≠ t) {v : Int} (res : List Int × Int)
  (H : Ev (fun k => residual_Push.j1 k f w m (if w.length = 0 then true else v != t) n s t l) res) (d : Nat) :
  ∀ (j : Nat) (u : Int), j + d = w.length → RPath l u (w.drop j) v → Ev (fun k => residual_Push.l0 k f w m u w (w.length : Int) (j : Int) n s t l) res := by
 induction d with
 | zero =>
  intro j u hj hp
  rw [List.drop_of_length_le (by omega)] at hp
  have e : u = v := hp
  subst e
  refine Ev.step (fun k => ?_) H
  simp only [residual_Push.l0]
  rw [if_neg (by omega)]
  by_cases c : w.length = 0
  ·rw [if_pos (by omega), if_pos c]
  ·rw [if_neg (by omega), if_neg c]
 | succ d ih =>
  intro j u hj hp
  have hjw : j < w.length := by omega
  rw [List.drop_eq_getElem_cons hjw] at hp
  obtain ⟨e0, hp⟩ := hp
  have hr := hw _ (List.getElem_mem hjw)
  obtain ⟨g0, g1, g2, g3⟩ := ends_range hg hr
  refine Ev.step (f := ?g) (fun k => ?h) ?e
  case h =>
   simp only [residual_Push.l0]
   rw [if_pos (by omega), if_pos (by omega), if_pos (by omega), rd_get hjw]
  case e =>
   refine Ev.bind (ends_ev hr hl) ?_
   simp only [if_pos e0, if_neg (show ¬ toOf l w[j] = 0 by omega)]
   refine Ev.congr (fun k => ?_) (ih (j + 1) (toOf l w[j]) (by omega) hp)
   rw [wrap_succ (by omega)]
theorem push_arg {n s t m v : Int} {l : List S49} {f w : List Int} (R : Right n s t l) (F : IsFlow n s t l f) (hw : ∀ r ∈ w, InR l r) (hwl : w.length ≤ 1000000) (hp : RPath l s w v) (hv : v ≠ t) : Ev (fun k => residual_Push.f k n s t l f w m) ([], 1) := by
 refine Ev.bind (check_flow R F) ?_
 simp only [if_true]
 refine push_walk R.arcs hw R.len hwl R.ne (v := v) ([], 1) ?_ w.length 0 s (by omega) (by simpa using hp)
 refine Ev.step (f := fun _ => some ([], 1)) (fun k => ?_) (Ev.now _)
 simp only [residual_Push.j1]
 rw [if_pos]
 split
 ·rfl
 ·simpa using hv
theorem push_both {n s t m : Int} {l : List S49} {f w : List Int} (R : Right n s t l) (F : IsFlow n s t l f) (hw : ∀ r ∈ w, InR l r) (hwl : w.length ≤ 1000000) (hp : RPath l s w t) (hn : (w.map (· / 2)).Nodup) (hm : 1 ≤ m) (hm2 : m ≤ 2000000000000) (hcap : ∀ a ∈ l, a.f2 < 1000000000000) :
  (Fits l f m w → Ev (fun k => residual_Push.f k n s t l f w m) (rpush f m w, 0)) ∧ (¬ Fits l f m w → Ev (fun k => residual_Push.f k n s t l f w m) ([], 9)) := by
 have hne : w.length ≠ 0 := fun e => by
  rw [List.length_eq_zero_iff] at e
  rw [e] at hp
  exact R.ne hp
 have hlen := F.within.len
 have hl := R.len
 have go : ∀ res, Ev (fun k => residual_Push.l1 k f m w (w.length : Int) 0 n s t l) res → Ev (fun k => residual_Push.f k n s t l f w m) res := fun res hres => by
  refine Ev.bind (check_flow R F) ?_
  simp only [if_true]
  refine push_walk R.arcs hw R.len hwl R.ne (v := t) res ?_ w.length 0 s (by omega) (by simpa using hp)
  refine Ev.step (fun k => ?_) hres
  simp only [residual_Push.j1, clone64.f]
  rw [if_neg hne, if_neg (by simp), if_neg (by omega), if_pos (by omega)]
  rfl
 obtain ⟨a, b⟩ := push_set (n := n) (s := s) (t := t) hw R.len hwl hm hm2 hcap w.length 0 f (by omega) F.within (by simpa using hn)
 exact ⟨fun h => go _ (by simpa using a (by simpa using h)), fun h => go _ (by simpa using b (by simpa using h))⟩
theorem shown_ev : Ev (fun k => racewaylaw6_shown.f k) true := by
 have R : Right 2 1 2 [(⟨1, 2, 5⟩ : S49)] := ⟨by omega, by omega, by omega, by omega, by omega, by omega, by omega, by simp, fun a ha => by
  obtain rfl := List.mem_singleton.1 ha
  exact ⟨by decide, by decide, by decide, by decide, by decide⟩, by decide⟩
 have F : IsFlow 2 1 2 [(⟨1, 2, 5⟩ : S49)] [3] := ⟨⟨by decide, by decide, trivial⟩, fun v h1 h2 h3 h4 => by omega⟩
 unfold racewaylaw6_shown.f
 have hroom : Ev (fun k => residual_Room.f k 2 1 2 [(⟨1, 2, 5⟩ : S49)] [3]) ([2, 3], 0) := by
  unfold residual_Room.f
  refine Ev.bind (check_flow R F) ?_
  exact Ev.congr (fun k => by simp [roomOf, wrap64]) (Ev.now ([2, 3], 0))
 refine Ev.bind hroom ?_
 exact Ev.congr (fun k => by simp [rd]) (Ev.now true)
/-- What holds of a walk in the making: no arc comes twice. -/
structure Making (n s : Int) (l : List S49) (met : List Bool) (at_ : Int) (w : List Int) : Prop where
 inr : ∀ r ∈ w, InR l r
 nodup : (w.map (· / 2)).Nodup
 path : RPath l s w at_
 a1 : 1 ≤ at_
 an : at_ ≤ n
 len : (met.length : Int) = n + 1
 seen : ∀ r ∈ w, rdOf false met (fromOf l r) = true ∧ (rdOf false met (toOf l r) = true ∨ toOf l r = at_)
theorem ends_pair {l : List S49} {r q : Int} (h : r / 2 = q / 2) : (fromOf l r = fromOf l q ∧ toOf l r = toOf l q) ∨ (fromOf l r = toOf l q ∧ toOf l r = fromOf l q) := by
 unfold fromOf toOf
 rw [h]
 by_cases c : r % 2 = 1 <;> by_cases e : q % 2 = 1 <;> simp [c, e]
theorem Making.stay {n s at_ : Int} {l : List S49} {met : List Bool} {w : List Int} (hg : ∀ a ∈ l, GoodArc n a) (M : Making n s l met at_ w) : Making n s l (met.set at_.toNat true) at_ w := by
 have h1 := M.a1
 have h2 := M.an
 have h3 := M.len
 refine ⟨M.inr, M.nodup, M.path, h1, h2, by rw [List.length_set]; exact h3, fun r hr => ?_⟩
 obtain ⟨g0, g1, g2, g3⟩ := ends_range hg (M.inr r hr)
 obtain ⟨p, q⟩ := M.seen r hr
 rw [rdOf_set (by omega) (by omega) (by omega), rdOf_set (by omega) (by omega) (by omega)]
 refine ⟨by split <;> first | rfl | exact p, ?_⟩
 rcases q with q | q
 ·left; split <;> first | rfl | exact q
 ·exact Or.inr q
theorem Making.move {n s at_ r : Int} {l : List S49} {met : List Bool} {w : List Int} (hg : ∀ a ∈ l, GoodArc n a) (M : Making n s l met at_ w) (hr : InR l r) (hf : fromOf l r = at_)
  (hto : ¬ rdOf false (met.set at_.toNat true) (toOf l r) = true) : Making n s l (met.set at_.toNat true) (toOf l r) (w ++ [r]) := by
 have M' := M.stay hg
 obtain ⟨k0, k1, k2, k3⟩ := ends_range hg hr
 have h1 := M.a1
 have h2 := M.an
 have h3 := M.len
 have hat : rdOf false (met.set at_.toNat true) at_ = true := by rw [rdOf_set (by omega) (by omega) (by omega), if_pos rfl]
 refine ⟨fun q hq => ?_, ?_, M.path.snoc hf, k2, k3, M'.len, fun q hq => ?_⟩
 ·rcases List.mem_append.1 hq with hq | hq
  ·exact M.inr q hq
  ·obtain rfl := List.mem_singleton.1 hq
   exact hr
 ·rw [List.map_append, List.nodup_append]
  refine ⟨M.nodup, by simp, fun a ha b hb => ?_⟩
  obtain ⟨q, hq, rfl⟩ := List.mem_map.1 ha
  have hb : b = r / 2 := by simpa using hb
  rintro rfl
  obtain ⟨p0, p1⟩ := M'.seen q hq
  rcases ends_pair (l := l) hb with ⟨e0, e1⟩ | ⟨e0, e1⟩
  ·rw [e1] at p1
   rcases p1 with p1 | p1
   ·exact hto p1
   ·rw [p1] at hto; exact hto hat
  ·rw [e0] at p0; exact hto p0
 ·rcases List.mem_append.1 hq with hq | hq
  ·obtain ⟨p0, p1⟩ := M'.seen q hq
   refine ⟨p0, Or.inl ?_⟩
   rcases p1 with p1 | p1
   ·exact p1
   ·rw [p1]; exact hat
  ·obtain rfl := List.mem_singleton.1 hq
   exact ⟨by rw [hf]; exact hat, Or.inr rfl⟩
theorem Making.start {n s t : Int} {l : List S49} (R : Right n s t l) : Making n s l (List.replicate (n + 1).toNat false) s [] := by
 have := R.n2
 exact ⟨fun r h => absurd h (by simp), List.nodup_nil, rfl, R.s1, R.sn, by simp; omega, fun r h => absurd h (by simp)⟩
theorem roomOf_len : ∀ {l : List S49} {f : List Int}, f.length = l.length → (roomOf l f).length = 2 * l.length
 | [], [], _ => rfl
 | a :: l, x :: f, h => by
  have := roomOf_len (l := l) (f := f) (by simpa using h)
  simp only [roomOf, List.length_cons, this]; omega
 | [], _ :: _, h => absurd h (by simp)
 | _ :: _, [], h => absurd h (by simp)
theorem roomOf_get : ∀ {l : List S49} {f : List Int} (W : Within l f) (hcap : ∀ a ∈ l, a.f2 < 1000000000000) (i : Nat), i < l.length →
  (roomOf l f)[2 * i]? = some ((rd_T49 l (i : Int)).f2 - rd f (i : Int)) ∧ (roomOf l f)[2 * i + 1]? = some (rd f (i : Int))
 | [], _, _, _, i, h => absurd h (by simp)
 | _ :: _, [], W, _, _, _ => W.elim
 | a :: l, x :: f, W, hcap, 0, _ => by
  have h0 := W.1
  have h1 := W.2.1
  have h2 := hcap a List.mem_cons_self
  simp only [roomOf, rd, rd_T49]
  simp only [Nat.mul_zero, Nat.zero_add, List.getElem?_cons_zero, List.getElem?_cons_succ]
  rw [wrap_id (by omega) (by omega)]
  exact ⟨rfl, rfl⟩
 | a :: l, x :: f, W, hcap, i + 1, h => by
  have ih := roomOf_get W.2.2 (fun b hb => hcap b (List.mem_cons_of_mem _ hb)) i (by simpa using h)
  have e1 : rd (x :: f) ((i + 1 : Nat) : Int) = rd f (i : Int) := by
   unfold rd
   rw [show ((i + 1 : Nat) : Int).toNat = i + 1 by omega, show (i : Int).toNat = i by omega]; rfl
  have e2 : rd_T49 (a :: l) ((i + 1 : Nat) : Int) = rd_T49 l (i : Int) := by
   unfold rd_T49
   rw [show ((i + 1 : Nat) : Int).toNat = i + 1 by omega, show (i : Int).toNat = i by omega]; rfl
  rw [e1, e2]
  simp only [roomOf]
  rw [show 2 * (i + 1) = 2 * i + 1 + 1 by omega, show 2 * i + 1 + 1 + 1 = (2 * i + 1) + 1 + 1 by omega]
  simp only [List.getElem?_cons_succ]
  exact ih
theorem roomOf_rd {l : List S49} {f : List Int} (W : Within l f) (hcap : ∀ a ∈ l, a.f2 < 1000000000000) {i : Int} (h0 : 0 ≤ i) (h1 : i < (l.length : Int)) :
  rd (roomOf l f) (2 * i) = (rd_T49 l i).f2 - rd f i ∧ rd (roomOf l f) (2 * i + 1) = rd f i := by
 obtain ⟨j, rfl⟩ : ∃ j : Nat, i = (j : Int) := ⟨i.toNat, by omega⟩
 obtain ⟨a, b⟩ := roomOf_get W hcap j (by omega)
 constructor
 ·show (roomOf l f).getD (2 * (j : Int)).toNat 0 = _
  rw [List.getD_eq_getElem?_getD, show (2 * (j : Int)).toNat = 2 * j by omega, a]; rfl
 ·show (roomOf l f).getD (2 * (j : Int) + 1).toNat 0 = _
  rw [List.getD_eq_getElem?_getD, show (2 * (j : Int) + 1).toNat = 2 * j + 1 by omega, b]; rfl
theorem room_ev {n s t : Int} {l : List S49} {f : List Int} (R : Right n s t l) (F : IsFlow n s t l f) : Ev (fun k => residual_Room.f k n s t l f) (roomOf l f, 0) := by
 have hlen := F.within.len
 have hl := R.len
 unfold residual_Room.f
 refine Ev.bind (check_flow R F) ?_
 have c : f.length ≤ l.length ∧ f.length ≤ 8796093022208 := by omega
 simp only [if_true, if_pos c]
 exact Ev.now _
end Go.Proofs.Ytbppeffcikphcaa.Pure
