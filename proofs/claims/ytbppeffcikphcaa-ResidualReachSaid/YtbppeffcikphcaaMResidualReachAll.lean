/- Plain lists and numbers, for the law ResidualReach: no program and no memory. -/
import Derived.Test.YtbppeffcikphcaaPResidualReachx0
import Derived.Test.YtbppeffcikphcaaPResidualReachx1
import Derived.Test.YtbppeffcikphcaaPResidualReachx3
import Derived.Test.YtbppeffcikphcaaPResidualReachx4
import Derived.Test.YtbppeffcikphcaaPResidualReachx5
import Derived.Test.YtbppeffcikphcaaPResidualReachx6
import Derived.Test.YtbppeffcikphcaaPResidualReachx7
import Derived.Test.YtbppeffcikphcaaPResidualReachx8
import Derived.Test.YtbppeffcikphcaaPResidualReachx9
import Derived.Test.YtbppeffcikphcaaPResidualReachx10
import Derived.Test.YtbppeffcikphcaaPResidualReachx11
import Derived.Test.YtbppeffcikphcaaPResidualReachx12
import Derived.Test.YtbppeffcikphcaaPResidualReachx13
import Derived.Test.YtbppeffcikphcaaPResidualReachx14
import Derived.Lib.RabinKarpLaws
set_option linter.unusedVariables false
namespace Go.Proofs.Ytbppeffcikphcaa.Pure
open Go.RowKit Go.Proofs.Ytbppeffcikphcaa.PResidualReach Go.Proofs.YtbppeffcikphcaaW.PrintWords Go.Proofs.YtbppeffcikphcaaW.PrintLast
theorem wrap_id {x : Int} (h0 : -9223372036854775808 ≤ x) (h1 : x ≤ 9223372036854775807) : wrap64 x = x := by unfold wrap64; omega
/-- An arc between nodes 1 to n, of no capacity below 0. -/
def GoodArc (n : Int) (a : S49) : Prop := 1 ≤ a.f0 ∧ a.f0 ≤ n ∧ 1 ≤ a.f1 ∧ a.f1 ≤ n ∧ 0 ≤ a.f2
def sumCap : List S49 → Int
  | [] => 0
  | a :: t => a.f2 + sumCap t
theorem sumCap_nonneg {n : Int} {l : List S49} (h : ∀ a ∈ l, GoodArc n a) : 0 ≤ sumCap l := by
  induction l with
  | nil => exact Int.le_refl 0
  | cons a t ih =>
    have h1 := ih (fun x hx => h x (List.mem_cons_of_mem _ hx))
    have h2 := (h a List.mem_cons_self).2.2.2.2
    simp only [sumCap]; omega
theorem chk_app {n : Int} : ∀ {l m : List S49} {s : Int}, (∀ a ∈ l, GoodArc n a) → 0 ≤ s → s + sumCap l ≤ 4611686018427387903 → chkArcs n (l ++ m) s = chkArcs n m (s + sumCap l)
  | [], m, s, _, _, _ => by simp [sumCap]
  | a :: t, m, s, h, hs, hM => by
    obtain ⟨g0, g1, g2, g3, g4⟩ := h a List.mem_cons_self
    have ht : ∀ x ∈ t, GoodArc n x := fun x hx => h x (List.mem_cons_of_mem _ hx)
    have hn := sumCap_nonneg ht
    simp only [sumCap] at hM
    simp only [List.cons_append, chkArcs]
    rw [if_pos ⟨by omega, by omega⟩, if_pos ⟨g0, g1, g2, g3⟩, if_neg (by omega), if_neg (by omega), chk_app ht (by omega) (by omega)]
    simp only [sumCap]
    rw [Int.add_assoc]
theorem chk_ok {n : Int} {l : List S49} {s : Int} (h : ∀ a ∈ l, GoodArc n a) (hs : 0 ≤ s) (hM : s + sumCap l ≤ 4611686018427387903) : chkArcs n l s = some 0 := by
  have := chk_app (m := []) h hs hM
  rw [List.append_nil] at this
  rw [this, chkArcs]
/-- A right network. -/
structure Right (n s t : Int) (l : List S49) : Prop where
  n2 : 2 ≤ n
  n500 : n ≤ 500
  s1 : 1 ≤ s
  sn : s ≤ n
  t1 : 1 ≤ t
  tn : t ≤ n
  ne : s ≠ t
  len : l.length ≤ 2000
  arcs : ∀ a ∈ l, GoodArc n a
  sum : sumCap l ≤ 4611686018427387903
theorem Right.check {n s t : Int} {l : List S49} (h : Right n s t l) : net_Check.f n s t l = some 0 := by
  unfold net_Check.f
  have h1 := h.n2
  have h2 := h.n500
  have h3 := h.s1
  have h4 := h.sn
  have h5 := h.t1
  have h6 := h.tn
  have h8 := h.len
  rw [if_neg (by omega), if_neg (fun hc => hc ⟨h3, h4, h5, h6⟩), if_neg h.ne, if_neg (by omega)]
  exact chk_ok h.arcs (Int.le_refl 0) (by have := h.sum; omega)
/-- Which of n things the raw number c speaks of. -/
def pk (c n : Int) : Int := if c < 0 then Int.tmod (-(c + 1)) n else Int.tmod c n
theorem pk_range {c n : Int} (hn : 0 < n) : 0 ≤ pk c n ∧ pk c n < n := by
  unfold pk
  split
  · exact ⟨Int.tmod_nonneg _ (by omega), Int.tmod_lt_of_pos _ hn⟩
  · exact ⟨Int.tmod_nonneg _ (by omega), Int.tmod_lt_of_pos _ hn⟩
theorem wf_bounds {c : Int} (h : (Lit.int .i64 c).wf = true) : -9223372036854775808 ≤ c ∧ c ≤ 9223372036854775807 := by
  simp [Lit.wf] at h
  obtain ⟨h1, h2⟩ := h
  have e : IntKind.i64.min = -9223372036854775808 := by decide
  rw [e] at h1
  exact ⟨h1, h2⟩
theorem pick_eq {c n : Int} (h0 : -9223372036854775808 ≤ c) (h1 : c ≤ 9223372036854775807) (hn : 0 < n) : racewaylaw6_pick.f c n = some (pk c n) := by
  unfold racewaylaw6_pick.f pk
  by_cases hc : c < 0
  · have e1 : wrap64 (c + 1) = c + 1 := by unfold wrap64; omega
    have e2 : wrap64 (-(c + 1)) = -(c + 1) := by unfold wrap64; omega
    rw [if_pos hc, if_pos hc, if_neg (by omega), e1, e2]
  · rw [if_neg hc, if_neg hc, if_neg (by omega)]
theorem tdiv_bounds {c d : Int} (h0 : -9223372036854775808 ≤ c) (h1 : c ≤ 9223372036854775807) (hd : 0 < d) : -9223372036854775808 ≤ Int.tdiv c d ∧ Int.tdiv c d ≤ 9223372036854775807 := by
  by_cases hc : 0 ≤ c
  · rw [Int.tdiv_eq_ediv_of_nonneg hc]
    have h2 := Int.ediv_nonneg hc (Int.le_of_lt hd)
    have h3 : c / d ≤ c := Int.ediv_le_self d hc
    omega
  · have e : Int.tdiv c d = -(Int.tdiv (-c) d) := by rw [← Int.neg_tdiv, Int.neg_neg]
    rw [e, Int.tdiv_eq_ediv_of_nonneg (by omega)]
    have h2 : 0 ≤ (-c) / d := Int.ediv_nonneg (by omega) (Int.le_of_lt hd)
    have h3 : (-c) / d ≤ -c := Int.ediv_le_self d (by omega)
    omega
/-- A raw arc is of whole numbers of 64 bits. -/
def Wfc (x : S68) : Prop := (Lit.int .i64 x.f0).wf = true ∧ (Lit.int .i64 x.f1).wf = true ∧ (Lit.int .i64 x.f2).wf = true
def mkArc (n : Int) (x : S68) : S49 := ⟨1 + pk x.f0 n, 1 + pk x.f1 n, if pk (Int.tdiv x.f2 21) 9 = 0 then pk x.f2 1000000 else pk x.f2 21⟩
theorem mkArc_good {n : Int} (hn : 0 < n) (x : S68) : GoodArc n (mkArc n x) ∧ (mkArc n x).f2 < 1000000 := by
  have h0 := pk_range (c := x.f0) hn
  have h1 := pk_range (c := x.f1) hn
  have h2 := pk_range (c := x.f2) (n := 1000000) (by omega)
  have h3 := pk_range (c := x.f2) (n := 21) (by omega)
  simp only [GoodArc, mkArc]
  split <;> exact ⟨⟨by omega, by omega, by omega, by omega, by omega⟩, by omega⟩
theorem made_loop {l : List S68} (hw : ∀ x ∈ l, Wfc x) {n s t : Int} (h2 : 2 ≤ n) (h9 : n ≤ 9) (d : Nat) : ∀ (i : Nat), i + d = min l.length 24 →
    Ev (fun k => racewaylaw6_made.l0 k l (i : Int) n s t ((l.take i).map (mkArc n))) (n, s, t, (l.take 24).map (mkArc n)) := by
  induction d with
  | zero =>
    intro i hi
    have e : (l.take i).map (mkArc n) = (l.take 24).map (mkArc n) := by
      have e0 : l.take i = l.take 24 := List.take_eq_take_iff.2 (by omega)
      rw [e0]
    by_cases hl : (i : Int) < (l.length : Int)
    · refine Ev.step (fun k => ?_) (Ev.step (f := fun _ => some (n, s, t, (l.take i).map (mkArc n))) (g := fun k => racewaylaw6_made.j1 k l (i : Int) false n s t ((l.take i).map (mkArc n))) (fun k => ?_) (by rw [e]; exact Ev.now _))
      · simp only [racewaylaw6_made.l0]
        rw [if_pos hl, decide_eq_false (by omega)]
      · simp [racewaylaw6_made.j1]
    · refine Ev.step (fun k => ?_) (Ev.step (f := fun _ => some (n, s, t, (l.take i).map (mkArc n))) (g := fun k => racewaylaw6_made.j1 k l (i : Int) false n s t ((l.take i).map (mkArc n))) (fun k => ?_) (by rw [e]; exact Ev.now _))
      · simp only [racewaylaw6_made.l0]
        rw [if_neg hl]
      · simp [racewaylaw6_made.j1]
  | succ d ih =>
    intro i hi
    have hil : i < l.length := by omega
    have hx : rd_T68 l (i : Int) = l[i] := by simp [rd_T68, hil]
    obtain ⟨w0, w1, w2⟩ := hw l[i] (List.getElem_mem hil)
    obtain ⟨l0, u0⟩ := wf_bounds w0
    obtain ⟨l1, u1⟩ := wf_bounds w1
    obtain ⟨l2, u2⟩ := wf_bounds w2
    obtain ⟨l3, u3⟩ := tdiv_bounds l2 u2 (d := 21) (by omega)
    have p0 := pk_range (c := l[i].f0) (n := n) (by omega)
    have p1 := pk_range (c := l[i].f1) (n := n) (by omega)
    have et : (l.take (i + 1)).map (mkArc n) = (l.take i).map (mkArc n) ++ [mkArc n l[i]] := by
      rw [List.take_succ_eq_append_getElem hil, List.map_append]; rfl
    refine Ev.step (f := fun k => racewaylaw6_made.j1 k l (i : Int) true n s t ((l.take i).map (mkArc n))) (fun k => ?_) (Ev.step (f := fun k => racewaylaw6_made.l0 k l ((i + 1 : Nat) : Int) n s t ((l.take (i + 1)).map (mkArc n))) (fun k => ?_) (ih (i + 1) (by omega)))
    · simp only [racewaylaw6_made.l0]
      rw [if_pos (by omega), decide_eq_true (by omega)]
    · simp only [racewaylaw6_made.j1, if_true]
      rw [if_pos (by omega), if_pos (by omega), hx, pick_eq l2 u2 (by omega)]
      simp only [Option.bind_some]
      rw [wrap_id l3 u3, pick_eq l3 u3 (by omega)]
      simp only [Option.bind_some]
      rw [pick_eq l2 u2 (by omega), pick_eq l0 u0 (by omega), pick_eq l1 u1 (by omega)]
      simp only [Option.bind_some]
      rw [wrap_id (by omega) (by omega), wrap_id (by omega) (by omega), wrap_id (by omega) (by omega), et]
      have hlm : ((l.take i).map (mkArc n)).length < 5864062014805 := by rw [List.length_map, List.length_take]; omega
      by_cases hz : pk (Int.tdiv l[i].f2 21) 9 = 0
      · rw [if_pos hz, if_pos hlm]
        simp only [mkArc, if_pos hz]
        rfl
      · rw [if_neg hz, if_pos hlm]
        simp only [mkArc, if_neg hz]
        rfl
/-- What is made of raw numbers. -/
theorem made_ev {a0 a1 : Int} {l : List S68} (w0 : (Lit.int .i64 a0).wf = true) (w1 : (Lit.int .i64 a1).wf = true) (hw : ∀ x ∈ l, Wfc x) :
    ∃ n s t arcs, Ev (fun k => racewaylaw6_made.f k a0 a1 l) (n, s, t, arcs) ∧ 2 ≤ n ∧ n ≤ 9 ∧ Right n s t arcs ∧ arcs.length ≤ 24 ∧ arcs.length = min l.length 24 ∧ (∀ a ∈ arcs, a.f2 < 1000000) := by
  obtain ⟨l0, u0⟩ := wf_bounds w0
  obtain ⟨l1, u1⟩ := wf_bounds w1
  obtain ⟨l2, u2⟩ := tdiv_bounds l1 u1 (d := 16) (by omega)
  have p0 := pk_range (c := a0) (n := 8) (by omega)
  obtain ⟨n, hn⟩ : ∃ n, 2 + pk a0 8 = n := ⟨_, rfl⟩
  have p1 := pk_range (c := a1) (n := n) (by omega)
  have p2 := pk_range (c := Int.tdiv a1 16) (n := n - 1) (by omega)
  obtain ⟨s, hs⟩ : ∃ s, 1 + pk a1 n = s := ⟨_, rfl⟩
  obtain ⟨q, hq⟩ : ∃ q, pk (Int.tdiv a1 16) (n - 1) = q := ⟨_, rfl⟩
  obtain ⟨t, ht⟩ : ∃ t, 1 + Int.tmod (s + q) n = t := ⟨_, rfl⟩
  have b0 : 0 ≤ Int.tmod (s + q) n := Int.tmod_nonneg _ (by omega)
  have b1 : Int.tmod (s + q) n < n := Int.tmod_lt_of_pos _ (by omega)
  have hne : s ≠ t := by
    have e : Int.tmod (s + q) n = (s + q) % n := Int.tmod_eq_emod_of_nonneg (by omega)
    rw [hq] at p2
    by_cases hc : s + q < n
    · rw [Int.emod_eq_of_lt (by omega) hc] at e; omega
    · have e2 : (s + q) % n = (s + q - n) % n := by rw [Int.sub_emod_right]
      rw [e2, Int.emod_eq_of_lt (by omega) (by omega)] at e; omega
  have hlen : ((l.take 24).map (mkArc n)).length = min l.length 24 := by simp; omega
  have hgood : ∀ a ∈ (l.take 24).map (mkArc n), GoodArc n a ∧ a.f2 < 1000000 := by
    intro a ha
    obtain ⟨x, _, rfl⟩ := List.mem_map.1 ha
    exact mkArc_good (by omega) x
  have hsum : ∀ m : List S49, (∀ a ∈ m, GoodArc n a ∧ a.f2 < 1000000) → sumCap m ≤ 1000000 * m.length := by
    intro m
    induction m with
    | nil => intro _; simp [sumCap]
    | cons a r ih =>
      intro h
      have h1 := ih (fun x hx => h x (List.mem_cons_of_mem _ hx))
      have h2 := (h a List.mem_cons_self).2
      simp only [sumCap, List.length_cons]; omega
  have hs2 := hsum _ hgood
  refine ⟨n, s, t, (l.take 24).map (mkArc n), ?_, by omega, by omega, ⟨by omega, by omega, by omega, by omega, by omega, by omega, hne, by omega, fun a ha => (hgood a ha).1, by omega⟩, by omega, hlen, fun a ha => (hgood a ha).2⟩
  refine Ev.congr (f := fun k => racewaylaw6_made.l0 k l 0 n s t []) (fun k => ?_) ?_
  · unfold racewaylaw6_made.f
    rw [pick_eq l0 u0 (by omega)]
    simp only [Option.bind_some]
    rw [wrap_id (x := 2 + pk a0 8) (by omega) (by omega), hn, pick_eq l1 u1 (by omega)]
    simp only [Option.bind_some]
    rw [wrap_id (x := n - 1) (by omega) (by omega), wrap_id l2 u2, pick_eq l2 u2 (by omega)]
    simp only [Option.bind_some]
    rw [if_neg (by omega), wrap_id (x := 1 + pk a1 n) (by omega) (by omega), hs, hq, wrap_id (x := s + q) (by omega) (by omega), wrap_id (x := 1 + Int.tmod (s + q) n) (by omega) (by omega), ht]
  · have := made_loop hw (n := n) (s := s) (t := t) (by omega) (by omega) (min l.length 24) 0 (by omega)
    simpa using this
/-- Amounts within the capacities. -/
def Within : List S49 → List Int → Prop
  | [], [] => True
  | a :: l, x :: f => 0 ≤ x ∧ x ≤ a.f2 ∧ Within l f
  | _, _ => False
/-- What comes in to a node, without what goes out. -/
def exc : List S49 → List Int → Int → Int
  | a :: l, x :: f, v => (if a.f1 = v then x else 0) - (if a.f0 = v then x else 0) + exc l f v
  | _, _, _ => 0
theorem exc_nil (f : List Int) (v : Int) : exc [] f v = 0 := by cases f <;> rfl
def sumL : List Int → Int
  | [] => 0
  | x :: f => x + sumL f
theorem Within.len : ∀ {l : List S49} {f : List Int}, Within l f → f.length = l.length
  | [], [], _ => rfl
  | _ :: _, _ :: _, h => by simp [Within.len h.2.2]
  | [], _ :: _, h => h.elim
  | _ :: _, [], h => h.elim
theorem Within.get : ∀ {l : List S49} {f : List Int}, Within l f → ∀ i (h : i < l.length) (h' : i < f.length), 0 ≤ f[i] ∧ f[i] ≤ (l[i]).f2
  | _ :: _, _ :: _, h, 0, _, _ => ⟨h.1, h.2.1⟩
  | _ :: l, _ :: f, h, i + 1, h1, h2 => by
    simp only [List.getElem_cons_succ]
    exact Within.get h.2.2 i (by simpa using h1) (by simpa using h2)
  | [], [], _, i, h1, _ => absurd h1 (by simp)
theorem rd_get {f : List Int} {i : Nat} (h : i < f.length) : rd f (i : Int) = f[i] := by simp [rd, h]
theorem rdT_get {l : List S49} {i : Nat} (h : i < l.length) : rd_T49 l (i : Int) = l[i] := by simp [rd_T49, h]
theorem Within.sum : ∀ {l : List S49} {f : List Int}, Within l f → 0 ≤ sumL f ∧ sumL f ≤ sumCap l
  | [], [], _ => ⟨Int.le_refl _, Int.le_refl _⟩
  | a :: l, x :: f, h => by
    have := Within.sum h.2.2
    have h1 := h.1
    have h2 := h.2.1
    simp only [sumL, sumCap]; omega
  | [], _ :: _, h => h.elim
  | _ :: _, [], h => h.elim
theorem Within.nonneg : ∀ {l : List S49} {f : List Int}, Within l f → ∀ x ∈ f, 0 ≤ x
  | [], [], _, x, hx => by cases hx
  | a :: l, y :: f, h, x, hx => by
    rcases List.mem_cons.1 hx with rfl | hx
    · exact h.1
    · exact Within.nonneg h.2.2 x hx
  | [], _ :: _, h, _, _ => h.elim
  | _ :: _, [], h, _, _ => h.elim
theorem Within.drop : ∀ {l : List S49} {f : List Int}, Within l f → ∀ i, Within (l.drop i) (f.drop i)
  | l, f, h, 0 => by simpa using h
  | [], [], _, _ + 1 => trivial
  | _ :: _, _ :: _, h, i + 1 => by simpa using Within.drop h.2.2 i
  | [], _ :: _, h, _ + 1 => h.elim
  | _ :: _, [], h, _ + 1 => h.elim
theorem Within.zeros : ∀ {l : List S49}, (∀ a ∈ l, 0 ≤ a.f2) → Within l (List.replicate l.length 0)
  | [], _ => trivial
  | a :: l, h => ⟨Int.le_refl _, h a List.mem_cons_self, Within.zeros (fun x hx => h x (List.mem_cons_of_mem _ hx))⟩
theorem exc_zeros : ∀ (l : List S49) (n : Nat) (v : Int), exc l (List.replicate n 0) v = 0
  | [], _, _ => by simp [exc]
  | _ :: _, 0, _ => by simp [exc]
  | a :: l, n + 1, v => by
    simp only [List.replicate_succ, exc, exc_zeros l n v]
    split <;> split <;> rfl
theorem Within.set : ∀ {l : List S49} {f : List Int}, Within l f → ∀ (i : Nat) (x : Int), 0 ≤ x → (∀ h : i < l.length, x ≤ (l[i]).f2) → Within l (f.set i x)
  | [], [], _, _, _, _, _ => by simp [Within]
  | a :: l, y :: f, h, 0, x, h0, hx => ⟨h0, hx (by simp), h.2.2⟩
  | a :: l, y :: f, h, i + 1, x, h0, hx => ⟨h.1, h.2.1, Within.set h.2.2 i x h0 (fun h' => by have := hx (by simpa using h'); simpa using this)⟩
  | [], _ :: _, h, _, _, _, _ => h.elim
  | _ :: _, [], h, _, _, _, _ => h.elim
theorem exc_set : ∀ {l : List S49} {f : List Int} (i : Nat) (x v : Int) (h : i < l.length) (h' : i < f.length),
    exc l (f.set i x) v = exc l f v + ((if (l[i]).f1 = v then x - f[i] else 0) - (if (l[i]).f0 = v then x - f[i] else 0))
  | [], _, _, _, _, h, _ => absurd h (by simp)
  | _ :: _, [], _, _, _, _, h' => absurd h' (by simp)
  | a :: l, y :: f, 0, x, v, _, _ => by
    simp only [List.set_cons_zero, exc, List.getElem_cons_zero]
    split <;> split <;> omega
  | a :: l, y :: f, i + 1, x, v, h, h' => by
    simp only [List.set_cons_succ, exc, List.getElem_cons_succ]
    rw [exc_set i x v (by simpa using h) (by simpa using h')]
    omega
/-- A flow. -/
structure IsFlow (n s t : Int) (l : List S49) (f : List Int) : Prop where
  within : Within l f
  cons : ∀ v, 1 ≤ v → v ≤ n → v ≠ s → v ≠ t → exc l f v = 0
theorem IsFlow.zeros {n s t : Int} {l : List S49} (h : ∀ a ∈ l, GoodArc n a) : IsFlow n s t l (List.replicate l.length 0) :=
  ⟨Within.zeros (fun a ha => (h a ha).2.2.2.2), fun v _ _ _ _ => exc_zeros _ _ _⟩
theorem rd_set {xs : List Int} {j u x : Int} (h0 : 0 ≤ j) (h1 : j < (xs.length : Int)) (hu : 0 ≤ u) : rd (xs.set j.toNat x) u = if j = u then x else rd xs u := by
  unfold rd
  rw [List.getD_eq_getElem?_getD, List.getD_eq_getElem?_getD, List.getElem?_set]
  by_cases e : j = u
  · subst e
    rw [if_pos rfl, if_pos (by omega), if_pos rfl]; rfl
  · rw [if_neg (by omega), if_neg e]
theorem sumL_drop {f : List Int} {i : Nat} (h : i < f.length) : sumL (f.drop i) = f[i] + sumL (f.drop (i + 1)) := by
  rw [List.drop_eq_getElem_cons h]; rfl
theorem sumL_nonneg : ∀ {g : List Int}, (∀ x ∈ g, 0 ≤ x) → 0 ≤ sumL g
  | [], _ => Int.le_refl _
  | y :: g, h => by
    have h1 := sumL_nonneg (g := g) (fun x hx => h x (List.mem_cons_of_mem _ hx))
    have h2 := h y List.mem_cons_self
    simp only [sumL]; omega
theorem exc_loop {n : Int} {l : List S49} {f : List Int} (hg : ∀ a ∈ l, GoodArc n a) (hf : ∀ x ∈ f, 0 ≤ x) (hlen : f.length = l.length) (hS : sumL f ≤ 4611686018427387903) (hl : l.length ≤ 2000) (d : Nat) :
    ∀ (i : Nat) (out : List Int), i + d = l.length → (out.length : Int) = n + 1 → (∀ v, 0 ≤ v → v ≤ n → -(sumL f - sumL (f.drop i)) ≤ rd out v ∧ rd out v ≤ sumL f - sumL (f.drop i)) →
      ∃ out', Ev (fun k => flow_excesses.l0 k f out l (l.length : Int) (i : Int)) out' ∧ (out'.length : Int) = n + 1 ∧ ∀ v, 0 ≤ v → v ≤ n → rd out' v = rd out v + exc (l.drop i) (f.drop i) v := by
  induction d with
  | zero =>
    intro i out hi ho _
    refine ⟨out, Ev.step (f := fun _ => some out) (fun k => ?_) (Ev.now _), ho, fun v _ _ => ?_⟩
    · simp only [flow_excesses.l0]
      rw [if_neg (by omega)]
    · rw [List.drop_of_length_le (show l.length ≤ i by omega), exc_nil]; omega
  | succ d ih =>
    intro i out hi ho hb
    have hil : i < l.length := by omega
    have hif : i < f.length := by omega
    obtain ⟨g0, g1, g2, g3, _⟩ := hg l[i] (List.getElem_mem hil)
    have hx0 := hf f[i] (List.getElem_mem hif)
    have hsd := sumL_drop hif
    have hsn := sumL_nonneg (g := f.drop (i + 1)) (fun x hx => hf x (List.mem_of_mem_drop hx))
    have b0 := hb (l[i]).f0 (by omega) g1
    have e1 : wrap64 (rd out (l[i]).f0 - f[i]) = rd out (l[i]).f0 - f[i] := wrap_id (by omega) (by omega)
    have hr1 : ∀ u, 0 ≤ u → rd (out.set ((l[i]).f0).toNat (rd out (l[i]).f0 - f[i])) u = if (l[i]).f0 = u then rd out (l[i]).f0 - f[i] else rd out u := fun u hu => rd_set (by omega) (by omega) hu
    have b1 := hb (l[i]).f1 (by omega) g3
    have e2 : wrap64 (rd (out.set ((l[i]).f0).toNat (rd out (l[i]).f0 - f[i])) (l[i]).f1 + f[i]) = rd (out.set ((l[i]).f0).toNat (rd out (l[i]).f0 - f[i])) (l[i]).f1 + f[i] := by
      have := hr1 (l[i]).f1 (by omega)
      rw [this]
      split <;> exact wrap_id (by omega) (by omega)
    have hr2 : ∀ u, 0 ≤ u → rd ((out.set ((l[i]).f0).toNat (rd out (l[i]).f0 - f[i])).set ((l[i]).f1).toNat (rd (out.set ((l[i]).f0).toNat (rd out (l[i]).f0 - f[i])) (l[i]).f1 + f[i])) u = rd out u + ((if (l[i]).f1 = u then f[i] else 0) - (if (l[i]).f0 = u then f[i] else 0)) := by
      intro u hu
      rw [rd_set (by omega) (by rw [List.length_set]; omega) hu, hr1 (l[i]).f1 (by omega), hr1 u hu]
      by_cases c1 : (l[i]).f1 = u
      · by_cases c0 : (l[i]).f0 = u
        · rw [if_pos c1, if_pos (by omega), if_pos c1, if_pos c0, c0]; omega
        · rw [if_pos c1, if_neg (by omega), if_pos c1, if_neg c0, c1]; omega
      · by_cases c0 : (l[i]).f0 = u
        · rw [if_neg c1, if_pos c0, if_neg c1, if_pos c0, c0]; omega
        · rw [if_neg c1, if_neg c0, if_neg c1, if_neg c0]; omega
    obtain ⟨Y, hYd⟩ : ∃ Y, ((out.set ((l[i]).f0).toNat (rd out (l[i]).f0 - f[i])).set ((l[i]).f1).toNat (rd (out.set ((l[i]).f0).toNat (rd out (l[i]).f0 - f[i])) (l[i]).f1 + f[i])) = Y := ⟨_, rfl⟩
    rw [hYd] at hr2
    obtain ⟨out', h1, h2, h3⟩ := ih (i + 1) Y (by omega) (by rw [← hYd, List.length_set, List.length_set]; exact ho) (fun v hv0 hv1 => by
      have hbv := hb v hv0 hv1
      have e := hr2 v hv0
      rw [e]
      by_cases c1 : (l[i]).f1 = v
      · by_cases c0 : (l[i]).f0 = v
        · rw [if_pos c1, if_pos c0]; omega
        · rw [if_pos c1, if_neg c0]; omega
      · by_cases c0 : (l[i]).f0 = v
        · rw [if_neg c1, if_pos c0]; omega
        · rw [if_neg c1, if_neg c0]; omega)
    refine ⟨out', Ev.step (fun k => ?_) h1, h2, fun v hv0 hv1 => ?_⟩
    · simp only [flow_excesses.l0]
      rw [if_pos (by omega), if_pos (by omega), if_pos (by omega), rdT_get hil, rd_get hif, if_pos (by omega), if_pos (by omega), if_pos (by omega), e1]
      simp only [Option.bind_some]
      rw [if_pos (by omega), if_pos (by omega), e2, wrap_id (by omega) (by omega), hYd]
      rfl
    · rw [h3 v hv0 hv1, hr2 v hv0, List.drop_eq_getElem_cons hil, List.drop_eq_getElem_cons hif]
      simp only [exc]; omega
theorem rd_replicate (m : Nat) (v : Int) : rd (List.replicate m 0) v = 0 := by
  unfold rd
  rw [List.getD_eq_getElem?_getD, List.getElem?_replicate]
  split <;> rfl
/-- All excesses. -/
theorem excesses_ev {n s t : Int} {l : List S49} {f : List Int} (R : Right n s t l) (W : Within l f) :
    ∃ out, Ev (fun k => flow_excesses.f k n s t l f) out ∧ (out.length : Int) = n + 1 ∧ ∀ v, 0 ≤ v → v ≤ n → rd out v = exc l f v := by
  have h1 := R.n2
  have h2 := R.n500
  have hs := W.sum
  have hR := R.sum
  obtain ⟨out, ho, hl, hv⟩ := exc_loop R.arcs W.nonneg W.len (by omega) R.len l.length 0 (List.replicate (n + 1).toNat 0) (by omega) (by simp; omega) (fun v _ _ => by rw [rd_replicate, List.drop_zero]; omega)
  refine ⟨out, Ev.congr (fun k => ?_) ho, hl, fun v h0 h3 => ?_⟩
  · unfold flow_excesses.f
    rw [wrap_id (x := n + 1) (by omega) (by omega), if_pos (by omega), if_pos (by omega)]
    rfl
  · rw [hv v h0 h3, rd_replicate, List.drop_zero, List.drop_zero]; omega
theorem within_loop {n s t : Int} {l : List S49} {f : List Int} (W : Within l f) (hl : l.length ≤ 2000) (d : Nat) : ∀ i : Nat, i + d = f.length → Ev (fun k => flow_within.l0 k f (f.length : Int) (i : Int) n s t l) 0 := by
  have hlen := W.len
  induction d with
  | zero =>
    intro i hi
    refine Ev.step (f := fun _ => some 0) (fun k => ?_) (Ev.now _)
    simp only [flow_within.l0]
    rw [if_neg (by omega)]
  | succ d ih =>
    intro i hi
    have hif : i < f.length := by omega
    have hil : i < l.length := by omega
    have hb := W.get i hil hif
    refine Ev.step (fun k => ?_) (ih (i + 1) (by omega))
    simp only [flow_within.l0]
    rw [if_pos (by omega), if_pos (by omega), if_pos (by omega), rd_get hif, rdT_get hil, if_neg (by omega), if_pos (by omega), if_neg (by omega), wrap_id (by omega) (by omega)]
    rfl
theorem within_yes {n s t : Int} {l : List S49} {f : List Int} (R : Right n s t l) (W : Within l f) : Ev (fun k => flow_within.f k n s t l f) 0 := by
  have hlen := W.len
  refine Ev.congr (fun k => ?_) (within_loop (n := n) (s := s) (t := t) W R.len f.length 0 (by omega))
  unfold flow_within.f
  rw [R.check]
  simp only [Option.bind_some, if_true]
  rw [if_pos (by omega)]
  rfl
theorem check_loop {n s t : Int} {l : List S49} {x : List Int} (hn : n ≤ 500) (hx : (x.length : Int) = n + 1) (d : Nat) : ∀ i : Nat, (i : Int) + d = n → (∀ v, (i : Int) < v → v ≤ n → v ≠ s → v ≠ t → rd x v = 0) →
    Ev (fun k => flow_Check.l0 k x n (i : Int) n s t l) 0 := by
  induction d with
  | zero =>
    intro i hi _
    refine Ev.step (f := fun _ => some 0) (fun k => ?_) (Ev.now _)
    simp only [flow_Check.l0]
    rw [if_neg (by omega)]
  | succ d ih =>
    intro i hi hz
    refine Ev.step (fun k => ?_) (ih (i + 1) (by omega) (fun v h1 h2 h3 h4 => hz v (by omega) h2 h3 h4))
    simp only [flow_Check.l0]
    rw [if_pos (by omega), wrap_id (by omega) (by omega)]
    by_cases c1 : (i : Int) + 1 = s
    · rw [if_pos c1]; rfl
    · by_cases c2 : (i : Int) + 1 = t
      · rw [if_neg c1, if_pos c2]; rfl
      · rw [if_neg c1, if_neg c2, if_pos (by omega), if_pos (by omega), if_pos (hz _ (by omega) (by omega) c1 c2)]; rfl
theorem check_flow {n s t : Int} {l : List S49} {f : List Int} (R : Right n s t l) (F : IsFlow n s t l f) : Ev (fun k => flow_Check.f k n s t l f) 0 := by
  obtain ⟨x, h1, h2, h3⟩ := excesses_ev R F.within
  have hn := R.n2
  unfold flow_Check.f
  refine Ev.bind (within_yes R F.within) ?_
  simp only [if_true]
  refine Ev.bind h1 ?_
  exact check_loop R.n500 h2 n.toNat 0 (by omega) (fun v hv1 hv2 hv3 hv4 => by rw [h3 v (by omega) hv2]; exact F.cons v (by omega) hv2 hv3 hv4)
theorem rdOf_set {m : List Bool} {j u : Int} {b : Bool} (h0 : 0 ≤ j) (h1 : j < (m.length : Int)) (hu : 0 ≤ u) : rdOf false (m.set j.toNat b) u = if j = u then b else rdOf false m u := by
  unfold rdOf
  rw [List.getD_eq_getElem?_getD, List.getD_eq_getElem?_getD, List.getElem?_set]
  by_cases e : j = u
  · subst e
    rw [if_pos rfl, if_pos (by omega), if_pos rfl]; rfl
  · rw [if_neg (by omega), if_neg e]
/-- How many nodes were not met. -/
def cntF : List Bool → Nat
  | [] => 0
  | b :: m => (if b = true then 0 else 1) + cntF m
theorem cntF_set : ∀ {m : List Bool} {i : Nat}, i < m.length → m.getD i false = false → cntF (m.set i true) + 1 = cntF m
  | [], _, h, _ => absurd h (by simp)
  | b :: m, 0, _, h => by
    have hb : b = false := by simpa using h
    subst hb
    simp [cntF]; omega
  | b :: m, i + 1, h, hb => by
    have := cntF_set (m := m) (i := i) (by simpa using h) (by simpa using hb)
    simp only [List.set_cons_succ, cntF]; omega
theorem cntF_replicate (k : Nat) : cntF (List.replicate k false) = k := by
  induction k with
  | zero => rfl
  | succ k ih => simp only [List.replicate_succ, cntF, ih]; simp; omega
/-- A walk along arcs, by their numbers. -/
def Path (l : List S49) : Int → List Int → Int → Prop
  | u, [], v => u = v
  | u, i :: w, v => (rd_T49 l i).f0 = u ∧ Path l (rd_T49 l i).f1 w v
theorem Path.snoc {l : List S49} : ∀ {w : List Int} {u v i : Int}, Path l u w v → (rd_T49 l i).f0 = v → Path l u (w ++ [i]) (rd_T49 l i).f1
  | [], u, v, i, h, hi => ⟨by rw [hi]; exact h.symm, rfl⟩
  | _ :: w, u, v, i, h, hi => ⟨h.1, Path.snoc h.2 hi⟩
/-- What walked tells: nothing, or a walk from source to sink, along which there is room. -/
def GoodWalk (l : List S49) (f : List Int) (s t : Int) (w : List Int) : Prop :=
  w = [] ∨ (Path l s w t ∧ w.Nodup ∧ ∀ j ∈ w, 0 ≤ j ∧ j < (l.length : Int) ∧ rd f j < (rd_T49 l j).f2)
def FitOk (l : List S49) (f : List Int) (met : List Bool) (at_ : Int) (F : List Int) : Prop :=
  ∀ j ∈ F, 0 ≤ j ∧ j < (l.length : Int) ∧ (rd_T49 l j).f0 = at_ ∧ rdOf false met (rd_T49 l j).f1 = false ∧ rd f j < (rd_T49 l j).f2
theorem wrap_succ {i : Nat} (h : i ≤ 1000000) : wrap64 ((i : Int) + 1) = ((i + 1 : Nat) : Int) := by rw [wrap_id (by omega) (by omega)]; rfl
theorem fit_run {n s t at_ raw : Int} {l : List S49} {f w : List Int} {met : List Bool} (hg : ∀ a ∈ l, GoodArc n a) (hlen : f.length = l.length) (hl : l.length ≤ 2000) (hm : (met.length : Int) = n + 1) (Q : List Int → Prop)
    (H : ∀ F, FitOk l f met at_ F → F.length ≤ l.length → ∃ r, Ev (fun k => racewaylaw6_walked.l1 k f raw met at_ w F (l.length : Int) n s t l) r ∧ Q r) (d : Nat) :
    ∀ (i : Nat) (F : List Int), i + d = l.length → FitOk l f met at_ F → F.length ≤ i → ∃ r, Ev (fun k => racewaylaw6_walked.l1 k f raw met at_ w F (i : Int) n s t l) r ∧ Q r := by
  induction d with
  | zero =>
    intro i F hi hF hlF
    obtain rfl : i = l.length := by omega
    exact H F hF hlF
  | succ d ih =>
    intro i F hi hF hlF
    have hil : i < l.length := by omega
    have hif : i < f.length := by omega
    obtain ⟨g0, g1, g2, g3, g4⟩ := hg l[i] (List.getElem_mem hil)
    by_cases c0 : (l[i]).f0 = at_
    · by_cases c1 : rdOf false met (l[i]).f1 = true
      · obtain ⟨r, hr, hq⟩ := ih (i + 1) F (by omega) hF (by omega)
        refine ⟨r, Ev.step (fun k => ?_) hr, hq⟩
        simp only [racewaylaw6_walked.l1]
        rw [if_pos (by omega), if_pos (by omega), rdT_get hil, if_pos c0, if_pos (by omega), if_pos (by omega), if_pos c1, wrap_succ (by omega)]
      · by_cases c2 : f[i] < (l[i]).f2
        · obtain ⟨r, hr, hq⟩ := ih (i + 1) (F ++ [(i : Int)]) (by omega) (fun j hj => by
            rcases List.mem_append.1 hj with hj | hj
            · exact hF j hj
            · obtain rfl := List.mem_singleton.1 hj
              rw [rdT_get hil, rd_get hif]
              exact ⟨by omega, by omega, c0, by simpa using c1, c2⟩) (by simp; omega)
          refine ⟨r, Ev.step (fun k => ?_) hr, hq⟩
          simp only [racewaylaw6_walked.l1]
          rw [if_pos (by omega), if_pos (by omega), rdT_get hil, rd_get hif, if_pos c0, if_pos (by omega), if_pos (by omega), if_neg c1, if_pos (by omega), if_pos c2, if_pos (by omega), wrap_succ (by omega)]
        · obtain ⟨r, hr, hq⟩ := ih (i + 1) F (by omega) hF (by omega)
          refine ⟨r, Ev.step (fun k => ?_) hr, hq⟩
          simp only [racewaylaw6_walked.l1]
          rw [if_pos (by omega), if_pos (by omega), rdT_get hil, rd_get hif, if_pos c0, if_pos (by omega), if_pos (by omega), if_neg c1, if_pos (by omega), if_neg c2, wrap_succ (by omega)]
    · obtain ⟨r, hr, hq⟩ := ih (i + 1) F (by omega) hF (by omega)
      refine ⟨r, Ev.step (fun k => ?_) hr, hq⟩
      simp only [racewaylaw6_walked.l1]
      rw [if_pos (by omega), if_pos (by omega), rdT_get hil, if_neg c0, wrap_succ (by omega)]
theorem rd_mem {F : List Int} {i : Int} (h0 : 0 ≤ i) (h1 : i < (F.length : Int)) : rd F i ∈ F := by
  have hlt : i.toNat < F.length := by omega
  have : rd F i = F[i.toNat] := by unfold rd; rw [List.getD_eq_getElem?_getD, List.getElem?_eq_getElem hlt]; rfl
  rw [this]; exact List.getElem_mem hlt
theorem rdT_mem {l : List S49} {i : Int} (h0 : 0 ≤ i) (h1 : i < (l.length : Int)) : rd_T49 l i ∈ l := by
  have hlt : i.toNat < l.length := by omega
  have : rd_T49 l i = l[i.toNat] := by unfold rd_T49; rw [List.getD_eq_getElem?_getD, List.getElem?_eq_getElem hlt]; rfl
  rw [this]; exact List.getElem_mem hlt
theorem walk_run {n s t raw : Int} {l : List S49} {f : List Int} (hraw : (Lit.int .i64 raw).wf = true) (hg : ∀ a ∈ l, GoodArc n a) (hlen : f.length = l.length) (hl : l.length ≤ 2000) (hn : n ≤ 500) (c : Nat) :
    ∀ (met : List Bool) (at_ : Int) (w : List Int), cntF met = c → (met.length : Int) = n + 1 → (w.length : Int) + c ≤ n + 1 → Path l s w at_ → w.Nodup →
      (∀ j ∈ w, 0 ≤ j ∧ j < (l.length : Int) ∧ rd f j < (rd_T49 l j).f2 ∧ rdOf false met (rd_T49 l j).f1 = true) →
      ∃ r, Ev (fun k => racewaylaw6_walked.l0 k f raw met at_ w n s t l) r ∧ GoodWalk l f s t r := by
  obtain ⟨r0, r1⟩ := wf_bounds hraw
  induction c with
  | zero =>
    intro met at_ w hc hm hw hp hnd hj
    by_cases ht : at_ = t
    · refine ⟨w, Ev.step (f := fun _ => some w) (fun k => ?_) (Ev.now _), Or.inr ⟨by rw [← ht]; exact hp, hnd, fun j h => ⟨(hj j h).1, (hj j h).2.1, (hj j h).2.2.1⟩⟩⟩
      simp only [racewaylaw6_walked.l0]
      rw [if_pos ht]
    · obtain ⟨r, hr, hq⟩ := fit_run (n := n) (s := s) (t := t) (at_ := at_) (raw := raw) (w := w) hg hlen hl hm (GoodWalk l f s t) (fun F hF hFl => by
        have hF0 : F = [] := by
          cases F with
          | nil => rfl
          | cons j F =>
            exfalso
            obtain ⟨h0, h1, h2, h3, h4⟩ := hF j List.mem_cons_self
            obtain ⟨g0, g1, g2, g3, _⟩ := hg _ (rdT_mem h0 h1)
            have := cntF_set (m := met) (i := ((rd_T49 l j).f1).toNat) (by omega) h3
            omega
        subst hF0
        refine ⟨[], Ev.step (f := fun _ => some []) (fun k => ?_) (Ev.now _), Or.inl rfl⟩
        simp only [racewaylaw6_walked.l1]
        rw [if_neg (by omega), if_pos (show (([] : List Int).length : Int) = 0 from rfl)]) l.length 0 [] (by omega) (fun j h => by cases h) (Nat.le_refl _)
      refine ⟨r, Ev.step (fun k => ?_) hr, hq⟩
      simp only [racewaylaw6_walked.l0]
      rw [if_neg ht]
      rfl
  | succ c ih =>
    intro met at_ w hc hm hw hp hnd hj
    by_cases ht : at_ = t
    · refine ⟨w, Ev.step (f := fun _ => some w) (fun k => ?_) (Ev.now _), Or.inr ⟨by rw [← ht]; exact hp, hnd, fun j h => ⟨(hj j h).1, (hj j h).2.1, (hj j h).2.2.1⟩⟩⟩
      simp only [racewaylaw6_walked.l0]
      rw [if_pos ht]
    · obtain ⟨r, hr, hq⟩ := fit_run (n := n) (s := s) (t := t) (at_ := at_) (raw := raw) (w := w) hg hlen hl hm (GoodWalk l f s t) (fun F hF hFl => by
        by_cases hF0 : F.length = 0
        · refine ⟨[], Ev.step (f := fun _ => some []) (fun k => ?_) (Ev.now _), Or.inl rfl⟩
          simp only [racewaylaw6_walked.l1]
          rw [if_neg (by omega), if_pos (by omega)]
        · obtain ⟨d0, d1⟩ := tdiv_bounds r0 r1 (d := (w.length : Int) + 1) (by omega)
          obtain ⟨p0, p1⟩ := pk_range (c := Int.tdiv raw ((w.length : Int) + 1)) (n := (F.length : Int)) (by omega)
          obtain ⟨j, hjd⟩ : ∃ j, rd F (pk (Int.tdiv raw ((w.length : Int) + 1)) (F.length : Int)) = j := ⟨_, rfl⟩
          obtain ⟨h0, h1, h2, h3, h4⟩ := hF j (by rw [← hjd]; exact rd_mem p0 p1)
          obtain ⟨g0, g1, g2, g3, _⟩ := hg _ (rdT_mem h0 h1)
          have hcs := cntF_set (m := met) (i := ((rd_T49 l j).f1).toNat) (by omega) h3
          obtain ⟨r, hr, hq⟩ := ih (met.set ((rd_T49 l j).f1).toNat true) (rd_T49 l j).f1 (w ++ [j]) (by omega) (by rw [List.length_set]; exact hm) (by simp; omega) (Path.snoc hp h2)
            (by
              rw [List.nodup_append]
              refine ⟨hnd, by simp, fun a ha b hb => ?_⟩
              obtain rfl := List.mem_singleton.1 hb
              rintro rfl
              have := (hj a ha).2.2.2
              rw [this] at h3; cases h3)
            (fun i hi => by
              rcases List.mem_append.1 hi with hi | hi
              · obtain ⟨q0, q1, q2, q3⟩ := hj i hi
                obtain ⟨_, _, k2, k3, _⟩ := hg _ (rdT_mem q0 q1)
                refine ⟨q0, q1, q2, ?_⟩
                rw [rdOf_set (by omega) (by omega) (by omega)]
                split
                · rfl
                · exact q3
              · obtain rfl := List.mem_singleton.1 hi
                refine ⟨h0, h1, h4, ?_⟩
                rw [rdOf_set (by omega) (by omega) (by omega), if_pos rfl])
          refine ⟨r, Ev.step (fun k => ?_) hr, hq⟩
          simp only [racewaylaw6_walked.l1]
          rw [if_neg (by omega), if_neg (by omega), wrap_id (x := (w.length : Int) + 1) (by omega) (by omega), if_neg (by omega), wrap_id d0 d1, pick_eq d0 d1 (by omega)]
          simp only [Option.bind_some]
          rw [if_pos p0, if_pos p1, if_pos (by omega), hjd, if_pos h0, if_pos h1, if_pos (by omega), if_pos (by omega)]) l.length 0 [] (by omega) (fun j h => by cases h) (Nat.le_refl _)
      refine ⟨r, Ev.step (fun k => ?_) hr, hq⟩
      simp only [racewaylaw6_walked.l0]
      rw [if_neg ht]
      rfl
theorem walked_ev {n s t raw : Int} {l : List S49} {f : List Int} (R : Right n s t l) (hlen : f.length = l.length) (hraw : (Lit.int .i64 raw).wf = true) :
    ∃ w, Ev (fun k => racewaylaw6_walked.f k n s t l f raw) w ∧ GoodWalk l f s t w := by
  have hn := R.n500
  have hn2 := R.n2
  have hs1 := R.s1
  have hsn := R.sn
  have hl1 : (List.replicate (n + 1).toNat false).length = (n + 1).toNat := List.length_replicate
  have hc0 : (List.replicate (n + 1).toNat false).getD s.toNat false = false := by
    rw [List.getD_eq_getElem?_getD, List.getElem?_replicate]; split <;> rfl
  have hcs := cntF_set (m := List.replicate (n + 1).toNat false) (i := s.toNat) (by omega) hc0
  rw [cntF_replicate] at hcs
  obtain ⟨r, hr, hq⟩ := walk_run (n := n) (s := s) (t := t) (raw := raw) hraw R.arcs hlen R.len hn (cntF ((List.replicate (n + 1).toNat false).set s.toNat true)) ((List.replicate (n + 1).toNat false).set s.toNat true) s [] rfl (by simp; omega) (by simp; omega) rfl List.nodup_nil (fun j h => by cases h)
  refine ⟨r, Ev.congr (fun k => ?_) hr, hq⟩
  unfold racewaylaw6_walked.f
  rw [wrap_id (x := n + 1) (by omega) (by omega), if_pos (by omega), if_pos (by omega)]
  simp only [Option.bind_some]
  rw [if_pos (by omega), if_pos (by omega)]
/-- An amount led along a walk. -/
def push (f : List Int) (m : Int) : List Int → List Int
  | [] => f
  | j :: w => push (f.set j.toNat (rd f j + m)) m w
theorem push_rd {m : Int} : ∀ {w : List Int} {f : List Int}, (∀ j ∈ w, 0 ≤ j ∧ j < (f.length : Int)) → w.Nodup → ∀ i, 0 ≤ i → rd (push f m w) i = rd f i + if i ∈ w then m else 0
  | [], f, _, _, i, _ => by simp [push]
  | j :: w, f, h, hn, i, hi => by
    obtain ⟨h0, h1⟩ := h j List.mem_cons_self
    have hj := (List.nodup_cons.1 hn).1
    rw [push, push_rd (fun k hk => by rw [List.length_set]; exact h k (List.mem_cons_of_mem _ hk)) (List.nodup_cons.1 hn).2 i hi, rd_set h0 h1 hi]
    by_cases e : j = i
    · subst e
      rw [if_pos rfl, if_neg hj, if_pos List.mem_cons_self]; omega
    · rw [if_neg e]
      by_cases c : i ∈ w
      · rw [if_pos c, if_pos (List.mem_cons_of_mem _ c)]
      · rw [if_neg c, if_neg (fun hc => by rcases List.mem_cons.1 hc with hc | hc; exact e hc.symm; exact c hc)]
theorem rd_nat {f : List Int} {j : Int} (h0 : 0 ≤ j) (h1 : j < (f.length : Int)) (h : j.toNat < f.length) : f[j.toNat] = rd f j := by
  unfold rd; rw [List.getD_eq_getElem?_getD, List.getElem?_eq_getElem h]; rfl
theorem rdT_nat {l : List S49} {j : Int} (h0 : 0 ≤ j) (h1 : j < (l.length : Int)) (h : j.toNat < l.length) : l[j.toNat] = rd_T49 l j := by
  unfold rd_T49; rw [List.getD_eq_getElem?_getD, List.getElem?_eq_getElem h]; rfl
theorem push_within {l : List S49} {m : Int} (hm : 0 ≤ m) : ∀ {w : List Int} {f : List Int}, Within l f → w.Nodup → (∀ j ∈ w, 0 ≤ j ∧ j < (l.length : Int) ∧ rd f j + m ≤ (rd_T49 l j).f2) → Within l (push f m w)
  | [], f, W, _, _ => W
  | j :: w, f, W, hn, h => by
    obtain ⟨h0, h1, h2⟩ := h j List.mem_cons_self
    have hlen := W.len
    have hj := (List.nodup_cons.1 hn).1
    have hjl : j.toNat < l.length := by omega
    have hjf : j.toNat < f.length := by omega
    have hb := W.get j.toNat hjl hjf
    rw [rd_nat h0 (by omega) hjf, rdT_nat h0 h1 hjl] at hb
    rw [push]
    refine push_within hm (W.set j.toNat _ (by omega) (fun h' => by rw [rdT_nat h0 h1 h']; exact h2)) (List.nodup_cons.1 hn).2 (fun i hi => ?_)
    obtain ⟨q0, q1, q2⟩ := h i (List.mem_cons_of_mem _ hi)
    refine ⟨q0, q1, ?_⟩
    rw [rd_set h0 (by omega) q0, if_neg (fun e => hj (by rw [e]; exact hi))]
    exact q2
theorem push_exc {l : List S49} {m v : Int} : ∀ {w : List Int} {f : List Int} {a b : Int}, Path l a w b → f.length = l.length → (∀ j ∈ w, 0 ≤ j ∧ j < (l.length : Int)) →
    exc l (push f m w) v = exc l f v + ((if b = v then m else 0) - (if a = v then m else 0))
  | [], f, a, b, hp, _, _ => by
    have : a = b := hp
    subst this
    simp only [push]; omega
  | j :: w, f, a, b, hp, hlen, h => by
    obtain ⟨h0, h1⟩ := h j List.mem_cons_self
    obtain ⟨e0, hp⟩ := hp
    have hjl : j.toNat < l.length := by omega
    have hjf : j.toNat < f.length := by omega
    rw [push, push_exc hp (by rw [List.length_set]; exact hlen) (fun i hi => h i (List.mem_cons_of_mem _ hi)), exc_set j.toNat _ v hjl hjf, rd_nat h0 (by omega) hjf, rdT_nat h0 h1 hjl, e0]
    have e : rd f j + m - rd f j = m := by omega
    rw [e]; omega
/-- One more walk is led. -/
def Step (l : List S49) (s t : Int) (f g : List Int) : Prop :=
  g = f ∨ ∃ w m, 1 ≤ m ∧ Path l s w t ∧ w.Nodup ∧ (∀ j ∈ w, 0 ≤ j ∧ j < (l.length : Int) ∧ rd f j + m ≤ (rd_T49 l j).f2) ∧ g = push f m w
theorem Step.flow {n s t : Int} {l : List S49} {f g : List Int} (h : Step l s t f g) (F : IsFlow n s t l f) : IsFlow n s t l g := by
  rcases h with rfl | ⟨w, m, hm, hp, hn, hj, rfl⟩
  · exact F
  · refine ⟨push_within (by omega) F.within hn hj, fun v h1 h2 h3 h4 => ?_⟩
    rw [push_exc hp F.within.len (fun j h => ⟨(hj j h).1, (hj j h).2.1⟩), F.cons v h1 h2 h3 h4, if_neg (fun e => h4 e.symm), if_neg (fun e => h3 e.symm)]; rfl
theorem Step.le {n s t : Int} {l : List S49} {f g : List Int} (h : Step l s t f g) (F : IsFlow n s t l f) : ∀ i, 0 ≤ i → rd f i ≤ rd g i := by
  intro i hi
  rcases h with rfl | ⟨w, m, hm, hp, hn, hj, rfl⟩
  · exact Int.le_refl _
  · have hlen := F.within.len
    rw [push_rd (fun j h => ⟨(hj j h).1, by have := (hj j h).2.1; omega⟩) hn i hi]
    split <;> omega
theorem Step.value {n s t : Int} {l : List S49} {f g : List Int} (h : Step l s t f g) (F : IsFlow n s t l f) (hst : s ≠ t) : exc l f t ≤ exc l g t := by
  rcases h with rfl | ⟨w, m, hm, hp, hn, hj, rfl⟩
  · exact Int.le_refl _
  · rw [push_exc hp F.within.len (fun j h => ⟨(hj j h).1, (hj j h).2.1⟩), if_pos rfl, if_neg hst]; omega
theorem most_run {n s t : Int} {l : List S49} {f w : List Int} (W : Within l f) (hcap : ∀ a ∈ l, a.f2 < 1000000000000) (hj : ∀ j ∈ w, 0 ≤ j ∧ j < (l.length : Int) ∧ rd f j < (rd_T49 l j).f2) (hwl : w.length ≤ 1000000) (d : Nat) :
    ∀ (j : Nat) (m : Int), j + d = w.length → 1 ≤ m → (∀ q, q < j → ∀ h : q < w.length, rd f w[q] + m ≤ (rd_T49 l w[q]).f2) →
      ∃ m', 1 ≤ m' ∧ m' ≤ m ∧ (∀ q ∈ w, rd f q + m' ≤ (rd_T49 l q).f2) ∧ ∀ (raws : List Int) (i : Int) r, Ev (fun k => racewaylaw6_routed.l2 k raws f i w m' 0 n s t l) r → Ev (fun k => racewaylaw6_routed.l1 k raws f i w m (j : Int) n s t l) r := by
  have hlen := W.len
  induction d with
  | zero =>
    intro j m hjd hm hq
    refine ⟨m, hm, Int.le_refl _, fun q hq' => ?_, fun raws i r hr => Ev.step (fun k => ?_) hr⟩
    · obtain ⟨p, hp, rfl⟩ := List.getElem_of_mem hq'
      exact hq p (by omega) hp
    · simp only [racewaylaw6_routed.l1]
      rw [if_neg (by omega)]
  | succ d ih =>
    intro j m hjd hm hq
    have hjw : j < w.length := by omega
    obtain ⟨h0, h1, h2⟩ := hj w[j] (List.getElem_mem hjw)
    have hc := hcap _ (rdT_mem h0 h1)
    have hb := W.get (w[j]).toNat (by omega) (by omega)
    rw [rd_nat h0 (by omega) (by omega), rdT_nat h0 h1 (by omega)] at hb
    obtain ⟨x, hx⟩ : ∃ x, (rd_T49 l w[j]).f2 - rd f w[j] = x := ⟨_, rfl⟩
    have hmn : 1 ≤ mn m x ∧ mn m x ≤ m ∧ mn m x ≤ x := by unfold mn; split <;> omega
    obtain ⟨m', g0, g1, g2, g3⟩ := ih (j + 1) (mn m x) (by omega) hmn.1 (fun q hqj hqw => by
      by_cases e : q = j
      · subst e; omega
      · have := hq q (by omega) hqw; omega)
    refine ⟨m', g0, by omega, g2, fun raws i r hr => Ev.step (fun k => ?_) (g3 raws i r hr)⟩
    simp only [racewaylaw6_routed.l1]
    rw [if_pos (by omega), if_pos (by omega), rd_get hjw, if_pos h0, if_pos h1, if_pos (by omega), wrap_id (by omega) (by omega), hx, wrap_succ (by omega)]
theorem push_run {n s t m : Int} {l : List S49} {raws w : List Int} {i : Nat} (hi : i ≤ 1000) (hm : 1 ≤ m) (hm2 : m ≤ 1000000000000) (hcap : ∀ a ∈ l, a.f2 < 1000000000000) (hwl : w.length ≤ 1000000) (d : Nat) :
    ∀ (j : Nat) (f : List Int), j + d = w.length → Within l f → (w.drop j).Nodup → (∀ q ∈ w.drop j, 0 ≤ q ∧ q < (l.length : Int) ∧ rd f q + m ≤ (rd_T49 l q).f2) →
      ∀ r, Ev (fun k => racewaylaw6_routed.l0 k raws (push f m (w.drop j)) ((i + 1 : Nat) : Int) n s t l) r → Ev (fun k => racewaylaw6_routed.l2 k raws f (i : Int) w m (j : Int) n s t l) r := by
  induction d with
  | zero =>
    intro j f hjd W _ _ r hr
    rw [List.drop_of_length_le (by omega), push] at hr
    refine Ev.step (fun k => ?_) hr
    simp only [racewaylaw6_routed.l2]
    rw [if_neg (by omega), wrap_succ (by omega)]
  | succ d ih =>
    intro j f hjd W hn hq r hr
    have hjw : j < w.length := by omega
    have hlen := W.len
    rw [List.drop_eq_getElem_cons hjw] at hn hq hr
    obtain ⟨h0, h1, h2⟩ := hq w[j] List.mem_cons_self
    have hc := hcap _ (rdT_mem h0 h1)
    have hb := W.get (w[j]).toNat (by omega) (by omega)
    rw [rd_nat h0 (by omega) (by omega), rdT_nat h0 h1 (by omega)] at hb
    have hnot := (List.nodup_cons.1 hn).1
    rw [push] at hr
    refine Ev.step (fun k => ?_) (ih (j + 1) (f.set (w[j]).toNat (rd f w[j] + m)) (by omega) (W.set _ _ (by omega) (fun h' => by rw [rdT_nat h0 h1 h']; exact h2)) (List.nodup_cons.1 hn).2 (fun q hq' => by
      obtain ⟨q0, q1, q2⟩ := hq q (List.mem_cons_of_mem _ hq')
      refine ⟨q0, q1, ?_⟩
      rw [rd_set h0 (by omega) q0, if_neg (fun e => hnot (by rw [e]; exact hq'))]
      exact q2) r hr)
    simp only [racewaylaw6_routed.l2]
    rw [if_pos (by omega), if_pos (by omega), rd_get hjw, if_pos h0, if_pos (by omega), wrap_id (by omega) (by omega), wrap_succ (by omega)]
theorem nodup_bound : ∀ {k : Nat} {w : List Int}, w.Nodup → (∀ j ∈ w, 0 ≤ j ∧ j < (k : Int)) → w.length ≤ k
  | 0, [], _, _ => Nat.le_refl _
  | 0, j :: _, _, h => by have := h j List.mem_cons_self; omega
  | k + 1, w, hn, h => by
    have h1 : (w.erase (k : Int)).length ≤ k := nodup_bound (hn.erase _) (fun j hj => by
      have hjw := List.mem_of_mem_erase hj
      have := h j hjw
      have hne : j ≠ (k : Int) := fun e => by
        rw [e] at hj
        exact (List.Nodup.not_mem_erase hn) hj
      omega)
    have h2 := List.length_erase_le (a := (k : Int)) (l := w)
    have h3 : w.length ≤ (w.erase (k : Int)).length + 1 := by
      rw [List.length_erase]; split <;> omega
    omega
/-- One round of routed. -/
theorem step_ev {n s t raw : Int} {l : List S49} {f : List Int} (R : Right n s t l) (hcap : ∀ a ∈ l, a.f2 < 1000000000000) (W : Within l f) (hraw : (Lit.int .i64 raw).wf = true) :
    ∃ g, Step l s t f g ∧ ∀ (raws : List Int) (i : Nat), i < 8 → i < raws.length → rd raws (i : Int) = raw →
      ∀ r, Ev (fun k => racewaylaw6_routed.l0 k raws g ((i + 1 : Nat) : Int) n s t l) r → Ev (fun k => racewaylaw6_routed.l0 k raws f (i : Int) n s t l) r := by
  obtain ⟨w, hw, hgood⟩ := walked_ev (f := f) (raw := raw) R W.len hraw
  obtain ⟨r0, r1⟩ := wf_bounds hraw
  have p := pk_range (c := raw) (n := 30) (by omega)
  have hl := R.len
  have hwp : (∀ j ∈ w, 0 ≤ j ∧ j < (l.length : Int) ∧ rd f j < (rd_T49 l j).f2) ∧ w.Nodup := by
    rcases hgood with rfl | ⟨_, h1, h2⟩
    · exact ⟨(fun j hj => by cases hj), List.nodup_nil⟩
    · exact ⟨h2, h1⟩
  have hwl := nodup_bound hwp.2 (fun j hj => ⟨(hwp.1 j hj).1, (hwp.1 j hj).2.1⟩)
  obtain ⟨m, m0, m1, m2, m3⟩ := most_run (n := n) (s := s) (t := t) W hcap hwp.1 (by omega) w.length 0 (pk raw 30 + 1) (by omega) (by omega) (fun q hq => by omega)
  refine ⟨push f m w, ?_, fun raws i hi hir hrr r hr => ?_⟩
  · rcases hgood with rfl | ⟨hp, h1, h2⟩
    · exact Or.inl rfl
    · exact Or.inr ⟨w, m, m0, hp, h1, fun j hj => ⟨(hwp.1 j hj).1, (hwp.1 j hj).2.1, m2 j hj⟩, rfl⟩
  · have h2 := push_run (n := n) (s := s) (t := t) (m := m) (raws := raws) (w := w) (i := i) (by omega) m0 (by omega) hcap (by omega) w.length 0 f (by omega) W (by rw [List.drop_zero]; exact hwp.2) (by rw [List.drop_zero]; exact fun q hq => ⟨(hwp.1 q hq).1, (hwp.1 q hq).2.1, m2 q hq⟩) r (by rw [List.drop_zero]; exact hr)
    have h1 := m3 raws (i : Int) r h2
    refine Ev.step (f := fun k => racewaylaw6_routed.j1 k raws f (i : Int) true n s t l) (fun k => ?_) (Ev.step (f := fun k => (racewaylaw6_walked.f k n s t l f raw).bind fun w => (racewaylaw6_pick.f raw 30).bind fun p => racewaylaw6_routed.l1 k raws f (i : Int) w (wrap64 (p + 1)) 0 n s t l) (fun k => ?_) (Ev.bind hw (Ev.congr (fun k => ?_) h1)))
    · simp only [racewaylaw6_routed.l0]
      rw [if_pos (by omega), decide_eq_true (by omega)]
    · simp only [racewaylaw6_routed.j1, if_true]
      rw [if_pos (by omega), if_pos (by omega), hrr]
    · rw [pick_eq r0 r1 (by omega)]
      simp only [Option.bind_some]
      rw [wrap_id (by omega) (by omega)]
      rfl
theorem steps_ev {n s t : Int} {l : List S49} (R : Right n s t l) (hcap : ∀ a ∈ l, a.f2 < 1000000000000) {raws : List Int} (hraws : ∀ x ∈ raws, (Lit.int .i64 x).wf = true) (d : Nat) :
    ∀ (i : Nat) (f : List Int), i + d = min raws.length 8 → IsFlow n s t l f → ∃ g, IsFlow n s t l g ∧ (∀ j, 0 ≤ j → rd f j ≤ rd g j) ∧ exc l f t ≤ exc l g t ∧ Ev (fun k => racewaylaw6_routed.l0 k raws f (i : Int) n s t l) g := by
  induction d with
  | zero =>
    intro i f hi F
    refine ⟨f, F, fun _ _ => Int.le_refl _, Int.le_refl _, ?_⟩
    refine Ev.step (f := fun k => racewaylaw6_routed.j1 k raws f (i : Int) false n s t l) (fun k => ?_) (Ev.step (f := fun _ => some f) (fun k => ?_) (Ev.now _))
    · simp only [racewaylaw6_routed.l0]
      by_cases c : (i : Int) < (raws.length : Int)
      · rw [if_pos c, decide_eq_false (by omega)]
      · rw [if_neg c]
    · simp [racewaylaw6_routed.j1]
  | succ d ih =>
    intro i f hi F
    have hir : i < raws.length := by omega
    obtain ⟨g, hs, hg⟩ := step_ev (raw := rd raws (i : Int)) R hcap F.within (hraws _ (rd_mem (by omega) (by omega)))
    obtain ⟨h, H1, H2, H3, H4⟩ := ih (i + 1) g (by omega) (hs.flow F)
    exact ⟨h, H1, fun j hj => Int.le_trans (hs.le F j hj) (H2 j hj), Int.le_trans (hs.value F R.ne) H3, hg raws i (by omega) hir rfl h H4⟩
/-- What routed leads is a flow. -/
theorem routed_ev {n s t : Int} {l : List S49} (R : Right n s t l) (hcap : ∀ a ∈ l, a.f2 < 1000000000000) {raws : List Int} (hraws : ∀ x ∈ raws, (Lit.int .i64 x).wf = true) :
    ∃ g, IsFlow n s t l g ∧ 0 ≤ exc l g t ∧ Ev (fun k => racewaylaw6_routed.f k n s t l raws) g := by
  have hl := R.len
  obtain ⟨g, h1, _, h2, h3⟩ := steps_ev R hcap hraws (min raws.length 8) 0 (List.replicate l.length 0) (by omega) (IsFlow.zeros R.arcs)
  rw [exc_zeros] at h2
  refine ⟨g, h1, h2, Ev.congr (fun k => ?_) h3⟩
  unfold racewaylaw6_routed.f
  rw [if_pos (by omega), if_pos (by omega)]
  rfl
/-! Residual tracks: r leads along arc r/2, backwards where r is odd. -/
theorem bit_odd {r : Int} (h0 : 0 ≤ r) (h1 : r ≤ 1000000) : Go.bits .and .i64 r 1 = r % 2 := by
  obtain ⟨i, rfl⟩ : ∃ i : Nat, r = (i : Int) := ⟨r.toNat, by omega⟩
  rw [Go.Proofs.and_one i (by omega)]; omega
theorem tdiv2 {r : Int} (h0 : 0 ≤ r) : Int.tdiv r 2 = r / 2 := Int.tdiv_eq_ediv_of_nonneg h0
def fromOf (l : List S49) (r : Int) : Int := if r % 2 = 1 then (rd_T49 l (r / 2)).f1 else (rd_T49 l (r / 2)).f0
def toOf (l : List S49) (r : Int) : Int := if r % 2 = 1 then (rd_T49 l (r / 2)).f0 else (rd_T49 l (r / 2)).f1
def InR (l : List S49) (r : Int) : Prop := 0 ≤ r ∧ r < 2 * (l.length : Int)
theorem ends_ev {n s t r : Int} {l : List S49} (h : InR l r) (hl : l.length ≤ 2000) : Ev (fun k => residual_Ends.f k n s t l r) (fromOf l r, toOf l r) := by
  obtain ⟨h0, h1⟩ := h
  have hd : wrap64 (Int.tdiv r 2) = r / 2 := by rw [tdiv2 h0, wrap_id (by omega) (by omega)]
  have e : Ev (fun k => residual_Ends.j0 k r (decide (wrap64 (Int.tdiv r 2) ≥ (l.length : Int))) n s t l) (fromOf l r, toOf l r) := by
    refine Ev.step (f := fun _ => some (fromOf l r, toOf l r)) (fun k => ?_) (Ev.now _)
    simp only [residual_Ends.j0, hd, bit_odd h0 (show r ≤ 1000000 by omega)]
    rw [if_neg (by simp; omega), if_pos (by omega), if_pos (by omega)]
    unfold fromOf toOf
    by_cases c : r % 2 = 1
    · rw [if_pos c, if_pos c, if_pos c]
    · rw [if_neg c, if_neg c, if_neg c]
  refine Ev.congr (fun k => ?_) e
  unfold residual_Ends.f
  rw [if_neg (by omega)]
theorem ends_range {n : Int} {l : List S49} {r : Int} (hg : ∀ a ∈ l, GoodArc n a) (h : InR l r) : 1 ≤ fromOf l r ∧ fromOf l r ≤ n ∧ 1 ≤ toOf l r ∧ toOf l r ≤ n := by
  obtain ⟨h0, h1⟩ := h
  obtain ⟨g0, g1, g2, g3, _⟩ := hg _ (rdT_mem (l := l) (i := r / 2) (by omega) (by omega))
  unfold fromOf toOf
  split <;> omega
theorem roomOf_len : ∀ {l : List S49} {f : List Int}, f.length = l.length → (roomOf l f).length = 2 * l.length
  | [], [], _ => rfl
  | a :: l, x :: f, h => by
    have := roomOf_len (l := l) (f := f) (by simpa using h)
    simp only [roomOf, List.length_cons, this]; omega
  | [], _ :: _, h => absurd h (by simp)
  | _ :: _, [], h => absurd h (by simp)
theorem room_ev {n s t : Int} {l : List S49} {f : List Int} (R : Right n s t l) (F : IsFlow n s t l f) : Ev (fun k => residual_Room.f k n s t l f) (roomOf l f, 0) := by
  have hlen := F.within.len
  have hl := R.len
  unfold residual_Room.f
  refine Ev.bind (check_flow R F) ?_
  have c : f.length ≤ l.length ∧ f.length ≤ 8796093022208 := by omega
  simp only [if_true, if_pos c]
  exact Ev.now _
theorem tracks_at2 {fr : Int → Int} {m : Nat} : ∀ (N v : Nat), v < m → ∃ x, (Go.Proofs.YtbppeffcikphcaaW.Mine.trAll fr m N)[v]? = some x ∧ ∀ r, (0 ≤ r ∧ r < (N : Int) ∧ (fr r).toNat = v) ↔ r ∈ x
  | 0, v, h => ⟨[], by simp [Go.Proofs.YtbppeffcikphcaaW.Mine.trAll, h], fun r => ⟨fun hr => by omega, fun hr => by cases hr⟩⟩
  | N + 1, v, h => by
    obtain ⟨x, hx, hr⟩ := tracks_at2 (fr := fr) (m := m) N v h
    have hl := Go.Proofs.YtbppeffcikphcaaW.Mine.trAll_length fr m N
    simp only [Go.Proofs.YtbppeffcikphcaaW.Mine.trAll, Go.Proofs.YtbppeffcikphcaaW.Mine.trAdd]
    by_cases c : (fr (N : Int)).toNat = v
    · rw [c]
      have e : (Go.Proofs.YtbppeffcikphcaaW.Mine.trAll fr m N).getD v [] = x := by rw [List.getD_eq_getElem?_getD, hx]; rfl
      refine ⟨x ++ [(N : Int)], by rw [List.getElem?_set_self (by omega), e], fun r => ?_⟩
      rw [List.mem_append, List.mem_singleton, ← hr r]
      constructor
      · intro h1
        by_cases c2 : r = (N : Int)
        · exact .inr c2
        · exact .inl ⟨h1.1, by omega, h1.2.2⟩
      · rintro (h1 | rfl)
        · exact ⟨h1.1, by omega, h1.2.2⟩
        · exact ⟨by omega, by omega, c⟩
    · refine ⟨x, by rw [List.getElem?_set_ne c]; exact hx, fun r => ?_⟩
      rw [← hr r]
      constructor
      · intro h1
        refine ⟨h1.1, ?_, h1.2.2⟩
        by_cases c2 : r = (N : Int)
        · subst c2; exact absurd h1.2.2 c
        · omega
      · intro h1
        exact ⟨h1.1, by omega, h1.2.2⟩
/-! What the search tells: which nodes it meets. -/
theorem rdB_set {m : List Bool} {q v : Int} {b : Bool} (q0 : 0 ≤ q) (q1 : q < (m.length : Int)) (v0 : 0 ≤ v) : rdOf false (m.set q.toNat b) v = if q = v then b else rdOf false m v := by
  unfold rdOf
  rw [List.getD_eq_getElem?_getD, List.getD_eq_getElem?_getD, List.getElem?_set]
  by_cases e : q = v
  · subst e
    rw [if_pos rfl, if_pos (by omega), if_pos rfl]; rfl
  · rw [if_neg (by omega), if_neg e]
def cntB : List Bool → Nat
  | [] => 0
  | x :: t => (if x = false then 1 else 0) + cntB t
theorem cntB_set : ∀ {m : List Bool} {i : Nat} (h : i < m.length), m[i] = false → cntB (m.set i true) + 1 = cntB m
  | [], i, h, _ => absurd h (by simp)
  | y :: t, 0, _, hy => by
    have hy : y = false := hy
    subst hy
    simp only [List.set_cons_zero, cntB, if_true]
    simp
    omega
  | y :: t, i + 1, h, hy => by
    have h1 : i < t.length := by simpa using h
    have ih := cntB_set h1 (by simpa using hy)
    simp only [List.set_cons_succ, cntB]
    omega
theorem cntB_replicate : ∀ k, cntB (List.replicate k false) = k
  | 0 => rfl
  | k + 1 => by rw [List.replicate_succ, cntB, cntB_replicate k, if_pos rfl]; omega
/-- What was met, as it must be. -/
structure IsMet (n s : Int) (l : List S49) (room : List Int) (least : Int) (met : List Bool) : Prop where
  len : (met.length : Int) = n + 1
  src : rdOf false met s = true
  step : ∀ r, InR l r → least ≤ rd room r → rdOf false met (fromOf l r) = true → rdOf false met (toOf l r) = true
  min : ∀ P : Int → Prop, P s → (∀ r, InR l r → least ≤ rd room r → P (fromOf l r) → P (toOf l r)) → ∀ v, 0 ≤ v → v ≤ n → rdOf false met v = true → P v
structure RInv (n s : Int) (l : List S49) (room : List Int) (least : Int) (ts : List (List Int)) (met : List Bool) (wait : List Int) : Prop where
  len : (met.length : Int) = n + 1
  tlen : ts.length = met.length
  cnt : wait.length + cntB met ≤ met.length
  src : rdOf false met s = true
  wtd : ∀ v ∈ wait, 1 ≤ v ∧ v ≤ n ∧ rdOf false met v = true
  trk : ∀ v, 1 ≤ v → v ≤ n → ∀ r ∈ ts.getD v.toNat [], InR l r ∧ fromOf l r = v
  done : ∀ r, InR l r → least ≤ rd room r → r ∉ ts.getD (fromOf l r).toNat [] → rdOf false met (toOf l r) = true
  all : ∀ r, InR l r → least ≤ rd room r → rdOf false met (fromOf l r) = true → fromOf l r ∉ wait → rdOf false met (toOf l r) = true
  min : ∀ P : Int → Prop, P s → (∀ r, InR l r → least ≤ rd room r → P (fromOf l r) → P (toOf l r)) → ∀ v, 0 ≤ v → v ≤ n → rdOf false met v = true → P v
section
variable {n s least : Int} {l : List S49} {room : List Int}
theorem find_none {met : List Bool} : ∀ {rs : List Int}, rcFind l room least met rs = none → ∀ r ∈ rs, least ≤ rd room r → rdOf false met (toOf l r) = true
  | [], _, r, hr, _ => by cases hr
  | q :: rs, h, r, hr, hroom => by
    have et : rcTo l q = toOf l q := rfl
    rw [rcFind, et] at h
    by_cases c : least ≤ rd room q ∧ rdOf false met (toOf l q) = false
    · rw [if_pos c] at h; cases h
    · rw [if_neg c] at h
      rcases List.mem_cons.1 hr with rfl | hr
      · cases e : rdOf false met (toOf l r) with
        | true => rfl
        | false => exact absurd ⟨hroom, e⟩ c
      · exact find_none h r hr hroom
theorem find_some {met : List Bool} {v : Int} {tl : List Int} : ∀ {rs : List Int}, rcFind l room least met rs = some (v, tl) →
    ∃ q ∈ rs, least ≤ rd room q ∧ toOf l q = v ∧ rdOf false met v = false ∧ (∀ r ∈ tl, r ∈ rs) ∧ ∀ r ∈ rs, r ∉ tl → r = q ∨ (least ≤ rd room r → rdOf false met (toOf l r) = true)
  | [], h => by cases h
  | q :: rs, h => by
    have et : rcTo l q = toOf l q := rfl
    rw [rcFind, et] at h
    by_cases c : least ≤ rd room q ∧ rdOf false met (toOf l q) = false
    · rw [if_pos c] at h
      have h := Option.some.inj h
      have e1 : toOf l q = v := congrArg Prod.fst h
      have e2 : rs = tl := congrArg Prod.snd h
      subst e2
      refine ⟨q, List.mem_cons_self, c.1, e1, by rw [← e1]; exact c.2, fun r hr => List.mem_cons_of_mem _ hr, fun r hr hn => ?_⟩
      rcases List.mem_cons.1 hr with e | hr
      · exact .inl e
      · exact absurd hr hn
    · rw [if_neg c] at h
      obtain ⟨p, hp, h1, h2, h3, h4, h5⟩ := find_some h
      refine ⟨p, List.mem_cons_of_mem _ hp, h1, h2, h3, fun r hr => List.mem_cons_of_mem _ (h4 r hr), fun r hr hn => ?_⟩
      rcases List.mem_cons.1 hr with rfl | hr
      · right
        intro hroom
        cases e : rdOf false met (toOf l r) with
        | true => rfl
        | false => exact absurd ⟨hroom, e⟩ c
      · exact h5 r hr hn
theorem getD_set {ts : List (List Int)} {x : List Int} {i j : Nat} (h : i < ts.length) : (ts.set i x).getD j [] = if i = j then x else ts.getD j [] := by
  rw [List.getD_eq_getElem?_getD, List.getD_eq_getElem?_getD, List.getElem?_set]
  by_cases e : i = j
  · rw [if_pos e, if_pos (by omega), if_pos e]; rfl
  · rw [if_neg e, if_neg e]
theorem take_last {w : List Int} (h : w ≠ []) : w = w.take (w.length - 1) ++ [rd w ((w.length : Int) - 1)] := by
  have hl : 0 < w.length := List.length_pos_iff.2 h
  have e : rd w ((w.length : Int) - 1) = w[w.length - 1]'(by omega) := by
    unfold rd
    have e1 : ((w.length : Int) - 1).toNat = w.length - 1 := by omega
    rw [e1, List.getD_eq_getElem?_getD, List.getElem?_eq_getElem (by omega)]; rfl
  rw [e]
  have h1 := List.take_succ_eq_append_getElem (l := w) (i := w.length - 1) (by omega)
  rw [← h1, List.take_of_length_le (by omega)]
theorem rcwalk_ev (hg : ∀ a ∈ l, GoodArc n a) (hn : n ≤ 500) (d : Nat) :
    ∀ (ts : List (List Int)) (met : List Bool) (wait : List Int), 2 * cntB met + wait.length ≤ d → RInv n s l room least ts met wait → ∃ m, Ev (fun k => rcWalk l room least k ts met wait) m ∧ IsMet n s l room least m := by
  induction d with
  | zero =>
    intro ts met wait hd I
    have hz : wait.length = 0 := by omega
    have hz2 : wait = [] := List.length_eq_zero_iff.1 hz
    refine ⟨met, Ev.step (f := fun _ => some met) (fun k => ?_) (Ev.now _), ⟨I.len, I.src, fun r hr hroom h => I.all r hr hroom h (by rw [hz2]; exact fun h => by (cases h)), I.min⟩⟩
    simp only [rcWalk]
    rw [if_pos hz]
  | succ d ih =>
    intro ts met wait hd I
    by_cases hz : wait.length = 0
    · have hz2 : wait = [] := List.length_eq_zero_iff.1 hz
      refine ⟨met, Ev.step (f := fun _ => some met) (fun k => ?_) (Ev.now _), ⟨I.len, I.src, fun r hr hroom h => I.all r hr hroom h (by rw [hz2]; exact fun h => by (cases h)), I.min⟩⟩
      simp only [rcWalk]
      rw [if_pos hz]
    · have hne : wait ≠ [] := fun e => hz (by rw [e]; rfl)
      have hw := take_last hne
      have hcnt := I.cnt
      have hlen := I.len
      have htl := I.tlen
      have hwl : wait.length ≤ 1000000 := by omega
      obtain ⟨v, hv⟩ : ∃ v, rd wait ((wait.length : Int) - 1) = v := ⟨_, rfl⟩
      obtain ⟨w, hwd⟩ : ∃ w, wait.take (wait.length - 1) = w := ⟨_, rfl⟩
      have hwlen : w.length + 1 = wait.length := by rw [← hwd, List.length_take]; omega
      rw [hv, hwd] at hw
      obtain ⟨v1, vn, hmv⟩ := I.wtd v (by rw [hw]; exact List.mem_append.2 (.inr (List.mem_singleton.2 rfl)))
      cases hf : rcFind l room least met (ts.getD v.toNat []) with
      | none =>
        obtain ⟨m, hm, M⟩ := ih ts met w (by omega) ⟨I.len, I.tlen, by omega, I.src, fun u hu => I.wtd u (by rw [hw]; exact List.mem_append.2 (.inl hu)), I.trk, I.done, fun r hr hroom h hnw => by
          by_cases c : fromOf l r = v
          · by_cases c2 : r ∈ ts.getD v.toNat []
            · exact find_none hf r c2 hroom
            · exact I.done r hr hroom (by rw [c]; exact c2)
          · refine I.all r hr hroom h (fun hc => ?_)
            rw [hw] at hc
            rcases List.mem_append.1 hc with hc | hc
            · exact hnw hc
            · exact c (List.mem_singleton.1 hc), I.min⟩
        refine ⟨m, Ev.step (fun k => ?_) hm, M⟩
        simp only [rcWalk]
        rw [if_neg hz, if_pos hwl, hv, hf, hwd]
      | some p =>
        obtain ⟨q, tl⟩ := p
        obtain ⟨r0, hr0, hroom0, hto, hmq, hsub, hold⟩ := find_some hf
        obtain ⟨hi0, hfrom⟩ := I.trk v v1 vn r0 hr0
        obtain ⟨_, _, t1, tn⟩ := ends_range hg hi0
        rw [hto] at t1 tn
        have hset : ∀ u, 0 ≤ u → rdOf false (met.set q.toNat true) u = if q = u then true else rdOf false met u := fun u hu => rdB_set (by omega) (by omega) hu
        have hkeep : ∀ u, 0 ≤ u → rdOf false met u = true → rdOf false (met.set q.toNat true) u = true := fun u hu h => by rw [hset u hu]; split; rfl; exact h
        have hgd : ∀ j : Nat, (ts.set v.toNat tl).getD j [] = if v.toNat = j then tl else ts.getD j [] := fun j => getD_set (by omega)
        have hqn : q.toNat < met.length := by omega
        have hget : met[q.toNat] = false := by
          have h := hmq
          unfold rdOf at h
          rw [List.getD_eq_getElem?_getD, List.getElem?_eq_getElem hqn] at h
          exact h
        have hcs := cntB_set hqn hget
        have hsn : 0 ≤ s := by
          apply Classical.byContradiction
          intro hc
          have h1 := I.src
          have e : rdOf false met s = rdOf false met 0 := by unfold rdOf; rw [show s.toNat = (0 : Int).toNat by omega]
          rw [e] at h1
          have h2 := I.min (fun u => u ≠ 0) (by omega) (fun r hr _ _ => by have := ends_range hg hr; omega) 0 (by omega) (by omega) h1
          exact h2 rfl
        obtain ⟨m, hm, M⟩ := ih (ts.set v.toNat tl) (met.set q.toNat true) (wait ++ [q]) (by rw [List.length_append, List.length_singleton]; omega) ⟨by rw [List.length_set]; exact hlen, by rw [List.length_set, List.length_set]; exact htl, by rw [List.length_append, List.length_singleton, List.length_set]; omega, hkeep s hsn I.src, fun u hu => by
            rcases List.mem_append.1 hu with hu | hu
            · obtain ⟨a, b, c⟩ := I.wtd u hu
              exact ⟨a, b, hkeep u (by omega) c⟩
            · obtain rfl := List.mem_singleton.1 hu
              exact ⟨t1, tn, by rw [hset u (by omega), if_pos rfl]⟩, fun u u1 un r hr => by
            rw [hgd] at hr
            by_cases c : v.toNat = u.toNat
            · rw [if_pos c] at hr
              have e : v = u := by omega
              rw [← e]
              exact I.trk v v1 vn r (hsub r hr)
            · rw [if_neg c] at hr
              exact I.trk u u1 un r hr, fun r hr hroom hnot => by
            obtain ⟨f1, fn, g1, gn⟩ := ends_range hg hr
            rw [hgd] at hnot
            by_cases c : v.toNat = (fromOf l r).toNat
            · rw [if_pos c] at hnot
              by_cases c2 : r ∈ ts.getD (fromOf l r).toNat []
              · rw [← c] at c2
                rcases hold r c2 hnot with rfl | h
                · rw [hto, hset q (by omega), if_pos rfl]
                · exact hkeep _ (by omega) (h hroom)
              · exact hkeep _ (by omega) (I.done r hr hroom c2)
            · rw [if_neg c] at hnot
              exact hkeep _ (by omega) (I.done r hr hroom hnot), fun r hr hroom h hnw => by
            obtain ⟨f1, fn, g1, gn⟩ := ends_range hg hr
            rw [hset _ (by omega)] at h
            have hnq : q ≠ fromOf l r := fun e => hnw (List.mem_append.2 (.inr (List.mem_singleton.2 e.symm)))
            rw [if_neg hnq] at h
            exact hkeep _ (by omega) (I.all r hr hroom h (fun hc => hnw (List.mem_append.2 (.inl hc)))), fun P hP hstep u u0 un h => by
            rw [hset u u0] at h
            by_cases c : q = u
            · rw [← c, ← hto]
              refine hstep r0 hi0 hroom0 ?_
              rw [hfrom]
              exact I.min P hP hstep v (by omega) vn hmv
            · rw [if_neg c] at h
              exact I.min P hP hstep u u0 un h⟩
        refine ⟨m, Ev.step (fun k => ?_) hm, M⟩
        simp only [rcWalk]
        rw [if_neg hz, if_pos hwl, hv, hf]
end
theorem reach_ev {n s t least : Int} {l : List S49} {f : List Int} (R : Right n s t l) (F : IsFlow n s t l f) (hl : 1 ≤ least) :
    ∃ met, Ev (fun k => residual_Reach.f k n s t l f least) (met, 0) ∧ IsMet n s l (roomOf l f) least met := by
  have h1 := R.n2
  have h2 := R.n500
  have h3 := R.s1
  have h4 := R.sn
  have h5 := R.len
  have hlen : (roomOf l f).length = 2 * l.length := roomOf_len F.1.len
  have hrl : (List.replicate (n + 1).toNat false).length = (n + 1).toNat := List.length_replicate
  have hrep : ∀ v, 0 ≤ v → v ≤ n → rdOf false (List.replicate (n + 1).toNat false) v = false := fun v v0 vn => by
    have : v.toNat < (n + 1).toNat := by omega
    simp [rdOf, this]
  have hrs : ∀ v, 0 ≤ v → rdOf false ((List.replicate (n + 1).toNat false).set s.toNat true) v = if s = v then true else rdOf false (List.replicate (n + 1).toNat false) v := fun v v0 => rdB_set (by omega) (by omega) v0
  have hcn : cntB ((List.replicate (n + 1).toNat false).set s.toNat true) + 1 = (n + 1).toNat := by
    have := cntB_set (m := List.replicate (n + 1).toNat false) (i := s.toNat) (by omega) (by simp)
    rw [cntB_replicate] at this
    exact this
  have hts : ∀ v, 0 ≤ v → v ≤ n → ∀ r, r ∈ (Go.Proofs.YtbppeffcikphcaaW.Mine.trAll (rcFrom l) (n + 1).toNat (roomOf l f).length).getD v.toNat [] ↔ InR l r ∧ fromOf l r = v := fun v v0 vn r => by
    obtain ⟨x, hx, hr⟩ := tracks_at2 (fr := rcFrom l) (m := (n + 1).toNat) (roomOf l f).length v.toNat (by omega)
    rw [List.getD_eq_getElem?_getD, hx]
    show r ∈ x ↔ _
    rw [← hr r]
    have e : rcFrom l r = fromOf l r := rfl
    rw [e, hlen]
    constructor
    · rintro ⟨a, b, c⟩
      have hi : InR l r := ⟨a, by omega⟩
      have := ends_range R.arcs hi
      exact ⟨hi, by omega⟩
    · rintro ⟨a, b⟩
      have := a.1
      have := a.2
      exact ⟨a.1, by omega, by omega⟩
  have I : RInv n s l (roomOf l f) least (Go.Proofs.YtbppeffcikphcaaW.Mine.trAll (rcFrom l) (n + 1).toNat (roomOf l f).length) ((List.replicate (n + 1).toNat false).set s.toNat true) [s] := by
    refine ⟨by rw [List.length_set, hrl]; omega, by rw [List.length_set, hrl, Go.Proofs.YtbppeffcikphcaaW.Mine.trAll_length], by rw [List.length_set, hrl, List.length_singleton]; omega, by rw [hrs s (by omega), if_pos rfl], fun v hv => ?_, fun v v1 vn r hr => (hts v (by omega) vn r).1 hr, fun r hr hroom hn => ?_, fun r hr hroom h hn => ?_, fun P hP _ v v0 vn h => ?_⟩
    · obtain rfl := List.mem_singleton.1 hv
      exact ⟨h3, h4, by rw [hrs _ (by omega), if_pos rfl]⟩
    · have := ends_range R.arcs hr
      exact absurd ((hts (fromOf l r) (by omega) (by omega) r).2 ⟨hr, rfl⟩) hn
    · have := ends_range R.arcs hr
      rw [hrs _ (by omega)] at h
      by_cases c : s = fromOf l r
      · exact absurd (List.mem_singleton.2 c.symm) hn
      · rw [if_neg c, hrep _ (by omega) (by omega)] at h
        cases h
    · rw [hrs v v0] at h
      by_cases c : s = v
      · rw [← c]; exact hP
      · rw [if_neg c, hrep v v0 vn] at h
        cases h
  obtain ⟨met, hm, M⟩ := rcwalk_ev R.arcs h2 _ _ _ _ (Nat.le_refl _) I
  refine ⟨met, ?_, M⟩
  have hfit : rcFit n s l (roomOf l f) = true := by
    simp only [rcFit, Bool.and_eq_true, decide_eq_true_eq, List.all_eq_true]
    refine ⟨⟨by omega, by omega, by omega, h4, h5, hlen⟩, fun a ha => ?_⟩
    obtain ⟨g0, g1, g2, g3, _⟩ := R.arcs a ha
    omega
  unfold residual_Reach.f
  refine Ev.bind (room_ev R F) ?_
  simp only [if_true, if_neg (show ¬ least < 1 by omega), hfit]
  exact Ev.bind hm (Ev.now _)
theorem from_all_loop {n : Int} {l : List S49} {v : Int} (hl : l.length ≤ 2000) (d : Nat) : ∀ (i : Nat) (T : List Int), i + d = l.length → T.length ≤ 2 * i → (∀ r ∈ T, InR l r ∧ fromOf l r = v) → (∀ r, 0 ≤ r → r < 2 * (i : Int) → fromOf l r = v → r ∈ T) →
    ∃ T', Ev (fun k => residual_From.l0 k v T l (l.length : Int) (i : Int)) T' ∧ T'.length ≤ 2 * l.length ∧ (∀ r ∈ T', InR l r ∧ fromOf l r = v) ∧ ∀ r, InR l r → fromOf l r = v → r ∈ T' := by
  induction d with
  | zero =>
    intro i T hi hT h hc
    refine ⟨T, Ev.step (f := fun _ => some T) (fun k => ?_) (Ev.now _), by omega, h, fun r hr => hc r hr.1 (by have := hr.2; omega)⟩
    simp only [residual_From.l0]
    rw [if_neg (by omega)]
  | succ d ih =>
    intro i T hi hT h hc
    have hil : i < l.length := by omega
    have e0 : wrap64 (2 * (i : Int)) = 2 * (i : Int) := wrap_id (by omega) (by omega)
    have e1 : wrap64 (2 * (i : Int) + 1) = 2 * (i : Int) + 1 := wrap_id (by omega) (by omega)
    have q0 : InR l (2 * (i : Int)) := ⟨by omega, by omega⟩
    have q1 : InR l (2 * (i : Int) + 1) := ⟨by omega, by omega⟩
    have f0 : fromOf l (2 * (i : Int)) = (rd_T49 l (i : Int)).f0 := by
      unfold fromOf
      rw [if_neg (by omega), show (2 * (i : Int)) / 2 = (i : Int) by omega]
    have f1 : fromOf l (2 * (i : Int) + 1) = (rd_T49 l (i : Int)).f1 := by
      unfold fromOf
      rw [if_pos (by omega), show (2 * (i : Int) + 1) / 2 = (i : Int) by omega]
    have hsplit : ∀ r : Int, r < 2 * ((i + 1 : Nat) : Int) → r < 2 * (i : Int) ∨ r = 2 * (i : Int) ∨ r = 2 * (i : Int) + 1 := fun r hr => by omega
    by_cases c0 : (rd_T49 l (i : Int)).f0 = v
    · have h2 : ∀ r ∈ T ++ [2 * (i : Int)], InR l r ∧ fromOf l r = v := fun r hr => by
        rcases List.mem_append.1 hr with hr | hr
        · exact h r hr
        · obtain rfl := List.mem_singleton.1 hr
          exact ⟨q0, by rw [f0]; exact c0⟩
      by_cases c1 : (rd_T49 l (i : Int)).f1 = v
      · obtain ⟨T', hT', g⟩ := ih (i + 1) ((T ++ [2 * (i : Int)]) ++ [2 * (i : Int) + 1]) (by omega) (by simp; omega) (fun r hr => by
          rcases List.mem_append.1 hr with hr | hr
          · exact h2 r hr
          · obtain rfl := List.mem_singleton.1 hr
            exact ⟨q1, by rw [f1]; exact c1⟩) (fun r r0 r1 hf => by
          rcases hsplit r r1 with hr | rfl | rfl
          · exact List.mem_append.2 (.inl (List.mem_append.2 (.inl (hc r r0 hr hf))))
          · exact List.mem_append.2 (.inl (List.mem_append.2 (.inr (List.mem_singleton.2 rfl))))
          · exact List.mem_append.2 (.inr (List.mem_singleton.2 rfl)))
        refine ⟨T', Ev.step (fun k => ?_) hT', g⟩
        simp only [residual_From.l0, e0, e1]
        rw [if_pos (by omega), if_pos (by omega), if_pos (by omega), if_pos c0, if_pos (by omega)]
        simp only [Option.bind_some]
        rw [if_pos c1, if_pos (by simp; omega), wrap_succ (by omega)]
      · obtain ⟨T', hT', g⟩ := ih (i + 1) (T ++ [2 * (i : Int)]) (by omega) (by simp; omega) h2 (fun r r0 r1 hf => by
          rcases hsplit r r1 with hr | rfl | rfl
          · exact List.mem_append.2 (.inl (hc r r0 hr hf))
          · exact List.mem_append.2 (.inr (List.mem_singleton.2 rfl))
          · rw [f1] at hf; exact absurd hf c1)
        refine ⟨T', Ev.step (fun k => ?_) hT', g⟩
        simp only [residual_From.l0, e0, e1]
        rw [if_pos (by omega), if_pos (by omega), if_pos (by omega), if_pos c0, if_pos (by omega)]
        simp only [Option.bind_some]
        rw [if_neg c1, wrap_succ (by omega)]
    · by_cases c1 : (rd_T49 l (i : Int)).f1 = v
      · obtain ⟨T', hT', g⟩ := ih (i + 1) (T ++ [2 * (i : Int) + 1]) (by omega) (by simp; omega) (fun r hr => by
          rcases List.mem_append.1 hr with hr | hr
          · exact h r hr
          · obtain rfl := List.mem_singleton.1 hr
            exact ⟨q1, by rw [f1]; exact c1⟩) (fun r r0 r1 hf => by
          rcases hsplit r r1 with hr | rfl | rfl
          · exact List.mem_append.2 (.inl (hc r r0 hr hf))
          · rw [f0] at hf; exact absurd hf c0
          · exact List.mem_append.2 (.inr (List.mem_singleton.2 rfl)))
        refine ⟨T', Ev.step (fun k => ?_) hT', g⟩
        simp only [residual_From.l0, e0, e1]
        rw [if_pos (by omega), if_pos (by omega), if_pos (by omega), if_neg c0, if_pos c1, if_pos (by omega), wrap_succ (by omega)]
      · obtain ⟨T', hT', g⟩ := ih (i + 1) T (by omega) (by omega) h (fun r r0 r1 hf => by
          rcases hsplit r r1 with hr | rfl | rfl
          · exact hc r r0 hr hf
          · rw [f0] at hf; exact absurd hf c0
          · rw [f1] at hf; exact absurd hf c1)
        refine ⟨T', Ev.step (fun k => ?_) hT', g⟩
        simp only [residual_From.l0, e0, e1]
        rw [if_pos (by omega), if_pos (by omega), if_pos (by omega), if_neg c0, if_neg c1, wrap_succ (by omega)]
theorem from_all {n s t v : Int} {l : List S49} (hl : l.length ≤ 2000) : ∃ T, Ev (fun k => residual_From.f k n s t l v) T ∧ T.length ≤ 2 * l.length ∧ (∀ r ∈ T, InR l r ∧ fromOf l r = v) ∧ ∀ r, InR l r → fromOf l r = v → r ∈ T :=
  from_all_loop (n := n) hl l.length 0 [] (by omega) (by simp) (fun r h => by cases h) (fun r r0 r1 _ => by omega)
def flip (r : Int) : Int := if r % 2 = 1 then r - 1 else r + 1
theorem xor_small : ∀ i : Fin 48, Go.bits .xor .i64 (i.val : Int) 1 = flip (i.val : Int) := by decide +kernel
theorem xor_flip {r : Int} (h0 : 0 ≤ r) (h1 : r < 48) : Go.bits .xor .i64 r 1 = flip r := by
  have := xor_small ⟨r.toNat, by omega⟩
  simp only at this
  rwa [show ((r.toNat : Nat) : Int) = r by omega] at this
theorem flip_half {r : Int} (h0 : 0 ≤ r) : flip r / 2 = r / 2 ∧ 0 ≤ flip r := by unfold flip; split <;> omega
theorem flip_inr {l : List S49} {r : Int} (h : InR l r) : InR l (flip r) := by unfold InR flip at *; split <;> omega
theorem flip_ends {l : List S49} {r : Int} (h0 : 0 ≤ r) : fromOf l (flip r) = toOf l r ∧ toOf l (flip r) = fromOf l r := by
  have h := (flip_half h0).1
  unfold fromOf toOf
  rw [h]
  by_cases c : r % 2 = 1
  · have : ¬ flip r % 2 = 1 := by unfold flip; rw [if_pos c]; omega
    simp [c, this]
  · have : flip r % 2 = 1 := by unfold flip; rw [if_neg c]; omega
    simp [c, this]
theorem shown_ev : Ev (fun k => racewaylaw6_shown.f k) true := by
  have R : Right 2 1 2 [(⟨1, 2, 5⟩ : S49)] := ⟨by omega, by omega, by omega, by omega, by omega, by omega, by omega, by simp, fun a ha => by
    obtain rfl := List.mem_singleton.1 ha
    exact ⟨by decide, by decide, by decide, by decide, by decide⟩, by decide⟩
  have F : IsFlow 2 1 2 [(⟨1, 2, 5⟩ : S49)] [3] := ⟨⟨by decide, by decide, trivial⟩, fun v h1 h2 h3 h4 => by omega⟩
  unfold racewaylaw6_shown.f
  have hroom : Ev (fun k => residual_Room.f k 2 1 2 [(⟨1, 2, 5⟩ : S49)] [3]) ([2, 3], 0) := by
    unfold residual_Room.f
    refine Ev.bind (check_flow R F) ?_
    exact Ev.congr (fun k => by simp [roomOf, wrap64]) (Ev.now ([2, 3], 0))
  refine Ev.bind hroom ?_
  exact Ev.congr (fun k => by simp [rd]) (Ev.now true)
end Go.Proofs.Ytbppeffcikphcaa.Pure
