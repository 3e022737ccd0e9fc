/- Plain lists and numbers, for the law FlowAdds: no program and no memory. -/
import Derived.Test.YtlkpapkcgafgeaaPFlowAddsx0
import Derived.Test.YtlkpapkcgafgeaaPFlowAddsx2
import Derived.Test.YtlkpapkcgafgeaaPFlowAddsx3
import Derived.Test.YtlkpapkcgafgeaaPFlowAddsx4
import Derived.Test.YtlkpapkcgafgeaaPFlowAddsx5
import Derived.Test.YtlkpapkcgafgeaaPFlowAddsx6
import Derived.Test.YtlkpapkcgafgeaaPFlowAddsx7
import Derived.Test.YtlkpapkcgafgeaaPFlowAddsx8
import Derived.Test.YtlkpapkcgafgeaaPFlowAddsx9
import Derived.Test.YtlkpapkcgafgeaaPFlowAddsx10
import Derived.Test.YtlkpapkcgafgeaaPFlowAddsx11
import Derived.Test.YtlkpapkcgafgeaaPFlowAddsx12
import Derived.Test.YtlkpapkcgafgeaaPFlowAddsx13
set_option linter.unusedVariables false
namespace Go.Proofs.Ytlkpapkcgafgeaa.Pure
open Go.RowKit Go.Proofs.Ytlkpapkcgafgeaa.PFlowAdds Go.Proofs.YtlkpapkcgafgeaaW.PrintWords Go.Proofs.YtlkpapkcgafgeaaW.PrintLast
theorem wrap_id {x : Int} (h0 : -9223372036854775808 ≤ x) (h1 : x ≤ 9223372036854775807) : wrap64 x = x := by unfold wrap64; omega
/-- An arc between nodes 1 to n, of no capacity below 0. -/
def GoodArc (n : Int) (a : S34) : Prop := 1 ≤ a.f0 ∧ a.f0 ≤ n ∧ 1 ≤ a.f1 ∧ a.f1 ≤ n ∧ 0 ≤ a.f2
def sumCap : List S34 → Int
  | [] => 0
  | a :: t => a.f2 + sumCap t
theorem sumCap_nonneg {n : Int} {l : List S34} (h : ∀ a ∈ l, GoodArc n a) : 0 ≤ sumCap l := by
  induction l with
  | nil => exact Int.le_refl 0
  | cons a t ih =>
    have h1 := ih (fun x hx => h x (List.mem_cons_of_mem _ hx))
    have h2 := (h a List.mem_cons_self).2.2.2.2
    simp only [sumCap]; omega
theorem chk_app {n : Int} : ∀ {l m : List S34} {s : Int}, (∀ a ∈ l, GoodArc n a) → 0 ≤ s → s + sumCap l ≤ 4611686018427387903 → chkArcs n (l ++ m) s = chkArcs n m (s + sumCap l)
  | [], m, s, _, _, _ => by simp [sumCap]
  | a :: t, m, s, h, hs, hM => by
    obtain ⟨g0, g1, g2, g3, g4⟩ := h a List.mem_cons_self
    have ht : ∀ x ∈ t, GoodArc n x := fun x hx => h x (List.mem_cons_of_mem _ hx)
    have hn := sumCap_nonneg ht
    simp only [sumCap] at hM
    simp only [List.cons_append, chkArcs]
    rw [if_pos ⟨by omega, by omega⟩, if_pos ⟨g0, g1, g2, g3⟩, if_neg (by omega), if_neg (by omega), chk_app ht (by omega) (by omega)]
    simp only [sumCap]
    rw [Int.add_assoc]
theorem chk_ok {n : Int} {l : List S34} {s : Int} (h : ∀ a ∈ l, GoodArc n a) (hs : 0 ≤ s) (hM : s + sumCap l ≤ 4611686018427387903) : chkArcs n l s = some 0 := by
  have := chk_app (m := []) h hs hM
  rw [List.append_nil] at this
  rw [this, chkArcs]
/-- A right network. -/
structure Right (n s t : Int) (l : List S34) : Prop where
  n2 : 2 ≤ n
  n500 : n ≤ 500
  s1 : 1 ≤ s
  sn : s ≤ n
  t1 : 1 ≤ t
  tn : t ≤ n
  ne : s ≠ t
  len : l.length ≤ 2000
  arcs : ∀ a ∈ l, GoodArc n a
  sum : sumCap l ≤ 4611686018427387903
theorem Right.check {n s t : Int} {l : List S34} (h : Right n s t l) : net_Check.f n s t l = some 0 := by
  unfold net_Check.f
  have h1 := h.n2
  have h2 := h.n500
  have h3 := h.s1
  have h4 := h.sn
  have h5 := h.t1
  have h6 := h.tn
  have h8 := h.len
  rw [if_neg (by omega), if_neg (fun hc => hc ⟨h3, h4, h5, h6⟩), if_neg h.ne, if_neg (by omega)]
  exact chk_ok h.arcs (Int.le_refl 0) (by have := h.sum; omega)
/-- Which of n things the raw number c speaks of. -/
def pk (c n : Int) : Int := if c < 0 then Int.tmod (-(c + 1)) n else Int.tmod c n
theorem pk_range {c n : Int} (hn : 0 < n) : 0 ≤ pk c n ∧ pk c n < n := by
  unfold pk
  split
  · exact ⟨Int.tmod_nonneg _ (by omega), Int.tmod_lt_of_pos _ hn⟩
  · exact ⟨Int.tmod_nonneg _ (by omega), Int.tmod_lt_of_pos _ hn⟩
theorem wf_bounds {c : Int} (h : (Lit.int .i64 c).wf = true) : -9223372036854775808 ≤ c ∧ c ≤ 9223372036854775807 := by
  simp [Lit.wf] at h
  obtain ⟨h1, h2⟩ := h
  have e : IntKind.i64.min = -9223372036854775808 := by decide
  rw [e] at h1
  exact ⟨h1, h2⟩
theorem pick_eq {c n : Int} (h0 : -9223372036854775808 ≤ c) (h1 : c ≤ 9223372036854775807) (hn : 0 < n) : racewaylaw5_pick.f c n = some (pk c n) := by
  unfold racewaylaw5_pick.f pk
  by_cases hc : c < 0
  · have e1 : wrap64 (c + 1) = c + 1 := by unfold wrap64; omega
    have e2 : wrap64 (-(c + 1)) = -(c + 1) := by unfold wrap64; omega
    rw [if_pos hc, if_pos hc, if_neg (by omega), e1, e2]
  · rw [if_neg hc, if_neg hc, if_neg (by omega)]
theorem tdiv_bounds {c d : Int} (h0 : -9223372036854775808 ≤ c) (h1 : c ≤ 9223372036854775807) (hd : 0 < d) : -9223372036854775808 ≤ Int.tdiv c d ∧ Int.tdiv c d ≤ 9223372036854775807 := by
  by_cases hc : 0 ≤ c
  · rw [Int.tdiv_eq_ediv_of_nonneg hc]
    have h2 := Int.ediv_nonneg hc (Int.le_of_lt hd)
    have h3 : c / d ≤ c := Int.ediv_le_self d hc
    omega
  · have e : Int.tdiv c d = -(Int.tdiv (-c) d) := by rw [← Int.neg_tdiv, Int.neg_neg]
    rw [e, Int.tdiv_eq_ediv_of_nonneg (by omega)]
    have h2 : 0 ≤ (-c) / d := Int.ediv_nonneg (by omega) (Int.le_of_lt hd)
    have h3 : (-c) / d ≤ -c := Int.ediv_le_self d (by omega)
    omega
/-- A raw arc is of whole numbers of 64 bits. -/
def Wfc (x : S58) : Prop := (Lit.int .i64 x.f0).wf = true ∧ (Lit.int .i64 x.f1).wf = true ∧ (Lit.int .i64 x.f2).wf = true
def mkArc (n : Int) (x : S58) : S34 := ⟨1 + pk x.f0 n, 1 + pk x.f1 n, if pk (Int.tdiv x.f2 21) 9 = 0 then pk x.f2 1000000 else pk x.f2 21⟩
theorem mkArc_good {n : Int} (hn : 0 < n) (x : S58) : GoodArc n (mkArc n x) ∧ (mkArc n x).f2 < 1000000 := by
  have h0 := pk_range (c := x.f0) hn
  have h1 := pk_range (c := x.f1) hn
  have h2 := pk_range (c := x.f2) (n := 1000000) (by omega)
  have h3 := pk_range (c := x.f2) (n := 21) (by omega)
  simp only [GoodArc, mkArc]
  split <;> exact ⟨⟨by omega, by omega, by omega, by omega, by omega⟩, by omega⟩
theorem made_loop {l : List S58} (hw : ∀ x ∈ l, Wfc x) {n s t : Int} (h2 : 2 ≤ n) (h9 : n ≤ 9) (d : Nat) : ∀ (i : Nat), i + d = min l.length 24 →
    Ev (fun k => racewaylaw5_made.l0 k l (i : Int) n s t ((l.take i).map (mkArc n))) (n, s, t, (l.take 24).map (mkArc n)) := by
  induction d with
  | zero =>
    intro i hi
    have e : (l.take i).map (mkArc n) = (l.take 24).map (mkArc n) := by
      have e0 : l.take i = l.take 24 := List.take_eq_take_iff.2 (by omega)
      rw [e0]
    by_cases hl : (i : Int) < (l.length : Int)
    · refine Ev.step (fun k => ?_) (Ev.step (f := fun _ => some (n, s, t, (l.take i).map (mkArc n))) (g := fun k => racewaylaw5_made.j1 k l (i : Int) false n s t ((l.take i).map (mkArc n))) (fun k => ?_) (by rw [e]; exact Ev.now _))
      · simp only [racewaylaw5_made.l0]
        rw [if_pos hl, decide_eq_false (by omega)]
      · simp [racewaylaw5_made.j1]
    · refine Ev.step (fun k => ?_) (Ev.step (f := fun _ => some (n, s, t, (l.take i).map (mkArc n))) (g := fun k => racewaylaw5_made.j1 k l (i : Int) false n s t ((l.take i).map (mkArc n))) (fun k => ?_) (by rw [e]; exact Ev.now _))
      · simp only [racewaylaw5_made.l0]
        rw [if_neg hl]
      · simp [racewaylaw5_made.j1]
  | succ d ih =>
    intro i hi
    have hil : i < l.length := by omega
    have hx : rd_T58 l (i : Int) = l[i] := by simp [rd_T58, hil]
    obtain ⟨w0, w1, w2⟩ := hw l[i] (List.getElem_mem hil)
    obtain ⟨l0, u0⟩ := wf_bounds w0
    obtain ⟨l1, u1⟩ := wf_bounds w1
    obtain ⟨l2, u2⟩ := wf_bounds w2
    obtain ⟨l3, u3⟩ := tdiv_bounds l2 u2 (d := 21) (by omega)
    have p0 := pk_range (c := l[i].f0) (n := n) (by omega)
    have p1 := pk_range (c := l[i].f1) (n := n) (by omega)
    have et : (l.take (i + 1)).map (mkArc n) = (l.take i).map (mkArc n) ++ [mkArc n l[i]] := by
      rw [List.take_succ_eq_append_getElem hil, List.map_append]; rfl
    refine Ev.step (f := fun k => racewaylaw5_made.j1 k l (i : Int) true n s t ((l.take i).map (mkArc n))) (fun k => ?_) (Ev.step (f := fun k => racewaylaw5_made.l0 k l ((i + 1 : Nat) : Int) n s t ((l.take (i + 1)).map (mkArc n))) (fun k => ?_) (ih (i + 1) (by omega)))
    · simp only [racewaylaw5_made.l0]
      rw [if_pos (by omega), decide_eq_true (by omega)]
    · simp only [racewaylaw5_made.j1, if_true]
      rw [if_pos (by omega), if_pos (by omega), hx, pick_eq l2 u2 (by omega)]
      simp only [Option.bind_some]
      rw [wrap_id l3 u3, pick_eq l3 u3 (by omega)]
      simp only [Option.bind_some]
      rw [pick_eq l2 u2 (by omega), pick_eq l0 u0 (by omega), pick_eq l1 u1 (by omega)]
      simp only [Option.bind_some]
      rw [wrap_id (by omega) (by omega), wrap_id (by omega) (by omega), wrap_id (by omega) (by omega), et]
      have hlm : ((l.take i).map (mkArc n)).length < 5864062014805 := by rw [List.length_map, List.length_take]; omega
      by_cases hz : pk (Int.tdiv l[i].f2 21) 9 = 0
      · rw [if_pos hz, if_pos hlm]
        simp only [mkArc, if_pos hz]
        rfl
      · rw [if_neg hz, if_pos hlm]
        simp only [mkArc, if_neg hz]
        rfl
/-- What is made of raw numbers. -/
theorem made_ev {a0 a1 : Int} {l : List S58} (w0 : (Lit.int .i64 a0).wf = true) (w1 : (Lit.int .i64 a1).wf = true) (hw : ∀ x ∈ l, Wfc x) :
    ∃ n s t arcs, Ev (fun k => racewaylaw5_made.f k a0 a1 l) (n, s, t, arcs) ∧ 2 ≤ n ∧ n ≤ 9 ∧ Right n s t arcs ∧ arcs.length ≤ 24 ∧ arcs.length = min l.length 24 ∧ (∀ a ∈ arcs, a.f2 < 1000000) := by
  obtain ⟨l0, u0⟩ := wf_bounds w0
  obtain ⟨l1, u1⟩ := wf_bounds w1
  obtain ⟨l2, u2⟩ := tdiv_bounds l1 u1 (d := 16) (by omega)
  have p0 := pk_range (c := a0) (n := 8) (by omega)
  obtain ⟨n, hn⟩ : ∃ n, 2 + pk a0 8 = n := ⟨_, rfl⟩
  have p1 := pk_range (c := a1) (n := n) (by omega)
  have p2 := pk_range (c := Int.tdiv a1 16) (n := n - 1) (by omega)
  obtain ⟨s, hs⟩ : ∃ s, 1 + pk a1 n = s := ⟨_, rfl⟩
  obtain ⟨q, hq⟩ : ∃ q, pk (Int.tdiv a1 16) (n - 1) = q := ⟨_, rfl⟩
  obtain ⟨t, ht⟩ : ∃ t, 1 + Int.tmod (s + q) n = t := ⟨_, rfl⟩
  have b0 : 0 ≤ Int.tmod (s + q) n := Int.tmod_nonneg _ (by omega)
  have b1 : Int.tmod (s + q) n < n := Int.tmod_lt_of_pos _ (by omega)
  have hne : s ≠ t := by
    have e : Int.tmod (s + q) n = (s + q) % n := Int.tmod_eq_emod_of_nonneg (by omega)
    rw [hq] at p2
    by_cases hc : s + q < n
    · rw [Int.emod_eq_of_lt (by omega) hc] at e; omega
    · have e2 : (s + q) % n = (s + q - n) % n := by rw [Int.sub_emod_right]
      rw [e2, Int.emod_eq_of_lt (by omega) (by omega)] at e; omega
  have hlen : ((l.take 24).map (mkArc n)).length = min l.length 24 := by simp; omega
  have hgood : ∀ a ∈ (l.take 24).map (mkArc n), GoodArc n a ∧ a.f2 < 1000000 := by
    intro a ha
    obtain ⟨x, _, rfl⟩ := List.mem_map.1 ha
    exact mkArc_good (by omega) x
  have hsum : ∀ m : List S34, (∀ a ∈ m, GoodArc n a ∧ a.f2 < 1000000) → sumCap m ≤ 1000000 * m.length := by
    intro m
    induction m with
    | nil => intro _; simp [sumCap]
    | cons a r ih =>
      intro h
      have h1 := ih (fun x hx => h x (List.mem_cons_of_mem _ hx))
      have h2 := (h a List.mem_cons_self).2
      simp only [sumCap, List.length_cons]; omega
  have hs2 := hsum _ hgood
  refine ⟨n, s, t, (l.take 24).map (mkArc n), ?_, by omega, by omega, ⟨by omega, by omega, by omega, by omega, by omega, by omega, hne, by omega, fun a ha => (hgood a ha).1, by omega⟩, by omega, hlen, fun a ha => (hgood a ha).2⟩
  refine Ev.congr (f := fun k => racewaylaw5_made.l0 k l 0 n s t []) (fun k => ?_) ?_
  · unfold racewaylaw5_made.f
    rw [pick_eq l0 u0 (by omega)]
    simp only [Option.bind_some]
    rw [wrap_id (x := 2 + pk a0 8) (by omega) (by omega), hn, pick_eq l1 u1 (by omega)]
    simp only [Option.bind_some]
    rw [wrap_id (x := n - 1) (by omega) (by omega), wrap_id l2 u2, pick_eq l2 u2 (by omega)]
    simp only [Option.bind_some]
    rw [if_neg (by omega), wrap_id (x := 1 + pk a1 n) (by omega) (by omega), hs, hq, wrap_id (x := s + q) (by omega) (by omega), wrap_id (x := 1 + Int.tmod (s + q) n) (by omega) (by omega), ht]
  · have := made_loop hw (n := n) (s := s) (t := t) (by omega) (by omega) (min l.length 24) 0 (by omega)
    simpa using this
/-- Amounts within the capacities. -/
def Within : List S34 → List Int → Prop
  | [], [] => True
  | a :: l, x :: f => 0 ≤ x ∧ x ≤ a.f2 ∧ Within l f
  | _, _ => False
/-- What comes in to a node, without what goes out. -/
def exc : List S34 → List Int → Int → Int
  | a :: l, x :: f, v => (if a.f1 = v then x else 0) - (if a.f0 = v then x else 0) + exc l f v
  | _, _, _ => 0
theorem exc_nil (f : List Int) (v : Int) : exc [] f v = 0 := by cases f <;> rfl
def sumL : List Int → Int
  | [] => 0
  | x :: f => x + sumL f
theorem Within.len : ∀ {l : List S34} {f : List Int}, Within l f → f.length = l.length
  | [], [], _ => rfl
  | _ :: _, _ :: _, h => by simp [Within.len h.2.2]
  | [], _ :: _, h => h.elim
  | _ :: _, [], h => h.elim
theorem Within.get : ∀ {l : List S34} {f : List Int}, Within l f → ∀ i (h : i < l.length) (h' : i < f.length), 0 ≤ f[i] ∧ f[i] ≤ (l[i]).f2
  | _ :: _, _ :: _, h, 0, _, _ => ⟨h.1, h.2.1⟩
  | _ :: l, _ :: f, h, i + 1, h1, h2 => by
    simp only [List.getElem_cons_succ]
    exact Within.get h.2.2 i (by simpa using h1) (by simpa using h2)
  | [], [], _, i, h1, _ => absurd h1 (by simp)
theorem Within.of : ∀ {l : List S34} {f : List Int}, f.length = l.length → (∀ i (h : i < l.length) (h' : i < f.length), 0 ≤ f[i] ∧ f[i] ≤ (l[i]).f2) → Within l f
  | [], [], _, _ => trivial
  | a :: l, x :: f, hl, h => by
    have h0 := h 0 (by simp) (by simp)
    exact ⟨h0.1, h0.2, Within.of (by simpa using hl) (fun i h1 h2 => by have := h (i + 1) (by simpa using h1) (by simpa using h2); simpa using this)⟩
  | [], _ :: _, hl, _ => absurd hl (by simp)
  | _ :: _, [], hl, _ => absurd hl (by simp)
theorem rd_get {f : List Int} {i : Nat} (h : i < f.length) : rd f (i : Int) = f[i] := by simp [rd, h]
theorem rdT_get {l : List S34} {i : Nat} (h : i < l.length) : rd_T34 l (i : Int) = l[i] := by simp [rd_T34, h]
theorem Within.sum : ∀ {l : List S34} {f : List Int}, Within l f → 0 ≤ sumL f ∧ sumL f ≤ sumCap l
  | [], [], _ => ⟨Int.le_refl _, Int.le_refl _⟩
  | a :: l, x :: f, h => by
    have := Within.sum h.2.2
    have h1 := h.1
    have h2 := h.2.1
    simp only [sumL, sumCap]; omega
  | [], _ :: _, h => h.elim
  | _ :: _, [], h => h.elim
theorem Within.nonneg : ∀ {l : List S34} {f : List Int}, Within l f → ∀ x ∈ f, 0 ≤ x
  | [], [], _, x, hx => by cases hx
  | a :: l, y :: f, h, x, hx => by
    rcases List.mem_cons.1 hx with rfl | hx
    · exact h.1
    · exact Within.nonneg h.2.2 x hx
  | [], _ :: _, h, _, _ => h.elim
  | _ :: _, [], h, _, _ => h.elim
theorem Within.drop : ∀ {l : List S34} {f : List Int}, Within l f → ∀ i, Within (l.drop i) (f.drop i)
  | l, f, h, 0 => by simpa using h
  | [], [], _, _ + 1 => trivial
  | _ :: _, _ :: _, h, i + 1 => by simpa using Within.drop h.2.2 i
  | [], _ :: _, h, _ + 1 => h.elim
  | _ :: _, [], h, _ + 1 => h.elim
theorem Within.zeros : ∀ {l : List S34}, (∀ a ∈ l, 0 ≤ a.f2) → Within l (List.replicate l.length 0)
  | [], _ => trivial
  | a :: l, h => ⟨Int.le_refl _, h a List.mem_cons_self, Within.zeros (fun x hx => h x (List.mem_cons_of_mem _ hx))⟩
theorem exc_zeros : ∀ (l : List S34) (n : Nat) (v : Int), exc l (List.replicate n 0) v = 0
  | [], _, _ => by simp [exc]
  | _ :: _, 0, _ => by simp [exc]
  | a :: l, n + 1, v => by
    simp only [List.replicate_succ, exc, exc_zeros l n v]
    split <;> split <;> rfl
theorem Within.set : ∀ {l : List S34} {f : List Int}, Within l f → ∀ (i : Nat) (x : Int), 0 ≤ x → (∀ h : i < l.length, x ≤ (l[i]).f2) → Within l (f.set i x)
  | [], [], _, _, _, _, _ => by simp [Within]
  | a :: l, y :: f, h, 0, x, h0, hx => ⟨h0, hx (by simp), h.2.2⟩
  | a :: l, y :: f, h, i + 1, x, h0, hx => ⟨h.1, h.2.1, Within.set h.2.2 i x h0 (fun h' => by have := hx (by simpa using h'); simpa using this)⟩
  | [], _ :: _, h, _, _, _, _ => h.elim
  | _ :: _, [], h, _, _, _, _ => h.elim
theorem exc_set : ∀ {l : List S34} {f : List Int} (i : Nat) (x v : Int) (h : i < l.length) (h' : i < f.length),
    exc l (f.set i x) v = exc l f v + ((if (l[i]).f1 = v then x - f[i] else 0) - (if (l[i]).f0 = v then x - f[i] else 0))
  | [], _, _, _, _, h, _ => absurd h (by simp)
  | _ :: _, [], _, _, _, _, h' => absurd h' (by simp)
  | a :: l, y :: f, 0, x, v, _, _ => by
    simp only [List.set_cons_zero, exc, List.getElem_cons_zero]
    split <;> split <;> omega
  | a :: l, y :: f, i + 1, x, v, h, h' => by
    simp only [List.set_cons_succ, exc, List.getElem_cons_succ]
    rw [exc_set i x v (by simpa using h) (by simpa using h')]
    omega
theorem exc_bound : ∀ {l : List S34} {f : List Int}, (∀ x ∈ f, 0 ≤ x) → ∀ v, -sumL f ≤ exc l f v ∧ exc l f v ≤ sumL f
  | [], f, h, v => by
    have : ∀ g : List Int, (∀ x ∈ g, 0 ≤ x) → 0 ≤ sumL g := by
      intro g
      induction g with
      | nil => intro _; exact Int.le_refl _
      | cons y g ih => intro hg; have := ih (fun x hx => hg x (List.mem_cons_of_mem _ hx)); have := hg y List.mem_cons_self; simp only [sumL]; omega
    have := this f h
    simp only [exc]; omega
  | _ :: _, [], _, v => by simp [exc, sumL]
  | a :: l, x :: f, h, v => by
    have h1 := exc_bound (l := l) (fun y hy => h y (List.mem_cons_of_mem _ hy)) v
    have h2 := h x List.mem_cons_self
    simp only [exc, sumL]
    split <;> split <;> omega
/-- A flow. -/
structure IsFlow (n s t : Int) (l : List S34) (f : List Int) : Prop where
  within : Within l f
  cons : ∀ v, 1 ≤ v → v ≤ n → v ≠ s → v ≠ t → exc l f v = 0
theorem IsFlow.zeros {n s t : Int} {l : List S34} (h : ∀ a ∈ l, GoodArc n a) : IsFlow n s t l (List.replicate l.length 0) :=
  ⟨Within.zeros (fun a ha => (h a ha).2.2.2.2), fun v _ _ _ _ => exc_zeros _ _ _⟩
theorem rd_set {xs : List Int} {j u x : Int} (h0 : 0 ≤ j) (h1 : j < (xs.length : Int)) (hu : 0 ≤ u) : rd (xs.set j.toNat x) u = if j = u then x else rd xs u := by
  unfold rd
  rw [List.getD_eq_getElem?_getD, List.getD_eq_getElem?_getD, List.getElem?_set]
  by_cases e : j = u
  · subst e
    rw [if_pos rfl, if_pos (by omega), if_pos rfl]; rfl
  · rw [if_neg (by omega), if_neg e]
theorem sumL_drop {f : List Int} {i : Nat} (h : i < f.length) : sumL (f.drop i) = f[i] + sumL (f.drop (i + 1)) := by
  rw [List.drop_eq_getElem_cons h]; rfl
theorem sumL_nonneg : ∀ {g : List Int}, (∀ x ∈ g, 0 ≤ x) → 0 ≤ sumL g
  | [], _ => Int.le_refl _
  | y :: g, h => by
    have h1 := sumL_nonneg (g := g) (fun x hx => h x (List.mem_cons_of_mem _ hx))
    have h2 := h y List.mem_cons_self
    simp only [sumL]; omega
theorem exc_loop {n : Int} {l : List S34} {f : List Int} (hg : ∀ a ∈ l, GoodArc n a) (hf : ∀ x ∈ f, 0 ≤ x) (hlen : f.length = l.length) (hS : sumL f ≤ 4611686018427387903) (hl : l.length ≤ 2000) (d : Nat) :
    ∀ (i : Nat) (out : List Int), i + d = l.length → (out.length : Int) = n + 1 → (∀ v, 0 ≤ v → v ≤ n → -(sumL f - sumL (f.drop i)) ≤ rd out v ∧ rd out v ≤ sumL f - sumL (f.drop i)) →
      ∃ out', Ev (fun k => flow_excesses.l0 k f out l (l.length : Int) (i : Int)) out' ∧ (out'.length : Int) = n + 1 ∧ ∀ v, 0 ≤ v → v ≤ n → rd out' v = rd out v + exc (l.drop i) (f.drop i) v := by
  induction d with
  | zero =>
    intro i out hi ho _
    refine ⟨out, Ev.step (f := fun _ => some out) (fun k => ?_) (Ev.now _), ho, fun v _ _ => ?_⟩
    · simp only [flow_excesses.l0]
      rw [if_neg (by omega)]
    · rw [List.drop_of_length_le (show l.length ≤ i by omega), exc_nil]; omega
  | succ d ih =>
    intro i out hi ho hb
    have hil : i < l.length := by omega
    have hif : i < f.length := by omega
    obtain ⟨g0, g1, g2, g3, _⟩ := hg l[i] (List.getElem_mem hil)
    have hx0 := hf f[i] (List.getElem_mem hif)
    have hsd := sumL_drop hif
    have hsn := sumL_nonneg (g := f.drop (i + 1)) (fun x hx => hf x (List.mem_of_mem_drop hx))
    have b0 := hb (l[i]).f0 (by omega) g1
    have e1 : wrap64 (rd out (l[i]).f0 - f[i]) = rd out (l[i]).f0 - f[i] := wrap_id (by omega) (by omega)
    have hr1 : ∀ u, 0 ≤ u → rd (out.set ((l[i]).f0).toNat (rd out (l[i]).f0 - f[i])) u = if (l[i]).f0 = u then rd out (l[i]).f0 - f[i] else rd out u := fun u hu => rd_set (by omega) (by omega) hu
    have b1 := hb (l[i]).f1 (by omega) g3
    have e2 : wrap64 (rd (out.set ((l[i]).f0).toNat (rd out (l[i]).f0 - f[i])) (l[i]).f1 + f[i]) = rd (out.set ((l[i]).f0).toNat (rd out (l[i]).f0 - f[i])) (l[i]).f1 + f[i] := by
      have := hr1 (l[i]).f1 (by omega)
      rw [this]
      split <;> exact wrap_id (by omega) (by omega)
    have hr2 : ∀ u, 0 ≤ u → rd ((out.set ((l[i]).f0).toNat (rd out (l[i]).f0 - f[i])).set ((l[i]).f1).toNat (rd (out.set ((l[i]).f0).toNat (rd out (l[i]).f0 - f[i])) (l[i]).f1 + f[i])) u = rd out u + ((if (l[i]).f1 = u then f[i] else 0) - (if (l[i]).f0 = u then f[i] else 0)) := by
      intro u hu
      rw [rd_set (by omega) (by rw [List.length_set]; omega) hu, hr1 (l[i]).f1 (by omega), hr1 u hu]
      by_cases c1 : (l[i]).f1 = u
      · by_cases c0 : (l[i]).f0 = u
        · rw [if_pos c1, if_pos (by omega), if_pos c1, if_pos c0, c0]; omega
        · rw [if_pos c1, if_neg (by omega), if_pos c1, if_neg c0, c1]; omega
      · by_cases c0 : (l[i]).f0 = u
        · rw [if_neg c1, if_pos c0, if_neg c1, if_pos c0, c0]; omega
        · rw [if_neg c1, if_neg c0, if_neg c1, if_neg c0]; omega
    obtain ⟨Y, hYd⟩ : ∃ Y, ((out.set ((l[i]).f0).toNat (rd out (l[i]).f0 - f[i])).set ((l[i]).f1).toNat (rd (out.set ((l[i]).f0).toNat (rd out (l[i]).f0 - f[i])) (l[i]).f1 + f[i])) = Y := ⟨_, rfl⟩
    rw [hYd] at hr2
    obtain ⟨out', h1, h2, h3⟩ := ih (i + 1) Y (by omega) (by rw [← hYd, List.length_set, List.length_set]; exact ho) (fun v hv0 hv1 => by
      have hbv := hb v hv0 hv1
      have e := hr2 v hv0
      rw [e]
      by_cases c1 : (l[i]).f1 = v
      · by_cases c0 : (l[i]).f0 = v
        · rw [if_pos c1, if_pos c0]; omega
        · rw [if_pos c1, if_neg c0]; omega
      · by_cases c0 : (l[i]).f0 = v
        · rw [if_neg c1, if_pos c0]; omega
        · rw [if_neg c1, if_neg c0]; omega)
    refine ⟨out', Ev.step (fun k => ?_) h1, h2, fun v hv0 hv1 => ?_⟩
    · simp only [flow_excesses.l0]
      rw [if_pos (by omega), if_pos (by omega), if_pos (by omega), rdT_get hil, rd_get hif, if_pos (by omega), if_pos (by omega), if_pos (by omega), e1]
      simp only [Option.bind_some]
      rw [if_pos (by omega), if_pos (by omega), e2, wrap_id (by omega) (by omega), hYd]
      rfl
    · rw [h3 v hv0 hv1, hr2 v hv0, List.drop_eq_getElem_cons hil, List.drop_eq_getElem_cons hif]
      simp only [exc]; omega
theorem rd_replicate (m : Nat) (v : Int) : rd (List.replicate m 0) v = 0 := by
  unfold rd
  rw [List.getD_eq_getElem?_getD, List.getElem?_replicate]
  split <;> rfl
/-- All excesses. -/
theorem excesses_ev {n s t : Int} {l : List S34} {f : List Int} (R : Right n s t l) (W : Within l f) :
    ∃ out, Ev (fun k => flow_excesses.f k n s t l f) out ∧ (out.length : Int) = n + 1 ∧ ∀ v, 0 ≤ v → v ≤ n → rd out v = exc l f v := by
  have h1 := R.n2
  have h2 := R.n500
  have hs := W.sum
  have hR := R.sum
  obtain ⟨out, ho, hl, hv⟩ := exc_loop R.arcs W.nonneg W.len (by omega) R.len l.length 0 (List.replicate (n + 1).toNat 0) (by omega) (by simp; omega) (fun v _ _ => by rw [rd_replicate, List.drop_zero]; omega)
  refine ⟨out, Ev.congr (fun k => ?_) ho, hl, fun v h0 h3 => ?_⟩
  · unfold flow_excesses.f
    rw [wrap_id (x := n + 1) (by omega) (by omega), if_pos (by omega), if_pos (by omega)]
    rfl
  · rw [hv v h0 h3, rd_replicate, List.drop_zero, List.drop_zero]; omega
theorem within_loop {n s t : Int} {l : List S34} {f : List Int} (W : Within l f) (hl : l.length ≤ 2000) (d : Nat) : ∀ i : Nat, i + d = f.length → Ev (fun k => flow_within.l0 k f (f.length : Int) (i : Int) n s t l) 0 := by
  have hlen := W.len
  induction d with
  | zero =>
    intro i hi
    refine Ev.step (f := fun _ => some 0) (fun k => ?_) (Ev.now _)
    simp only [flow_within.l0]
    rw [if_neg (by omega)]
  | succ d ih =>
    intro i hi
    have hif : i < f.length := by omega
    have hil : i < l.length := by omega
    have hb := W.get i hil hif
    refine Ev.step (fun k => ?_) (ih (i + 1) (by omega))
    simp only [flow_within.l0]
    rw [if_pos (by omega), if_pos (by omega), if_pos (by omega), rd_get hif, rdT_get hil, if_neg (by omega), if_pos (by omega), if_neg (by omega), wrap_id (by omega) (by omega)]
    rfl
theorem within_yes {n s t : Int} {l : List S34} {f : List Int} (R : Right n s t l) (W : Within l f) : Ev (fun k => flow_within.f k n s t l f) 0 := by
  have hlen := W.len
  refine Ev.congr (fun k => ?_) (within_loop (n := n) (s := s) (t := t) W R.len f.length 0 (by omega))
  unfold flow_within.f
  rw [R.check]
  simp only [Option.bind_some, if_true]
  rw [if_pos (by omega)]
  rfl
theorem within_bad {n s t : Int} {l : List S34} {f : List Int} (hlen : f.length = l.length) (hl : l.length ≤ 2000) (d : Nat) : ∀ i : Nat, i + d = f.length → (∃ j, i ≤ j ∧ ∃ (h : j < l.length) (h' : j < f.length), ¬ (0 ≤ f[j] ∧ f[j] ≤ (l[j]).f2)) →
    Ev (fun k => flow_within.l0 k f (f.length : Int) (i : Int) n s t l) 3 := by
  induction d with
  | zero =>
    intro i hi ⟨j, h1, h2, h3, _⟩
    omega
  | succ d ih =>
    intro i hi ⟨j, h1, h2, h3, h4⟩
    have hif : i < f.length := by omega
    have hil : i < l.length := by omega
    by_cases c0 : f[i] < 0
    · refine Ev.step (f := fun _ => some 3) (fun k => ?_) (Ev.now _)
      simp only [flow_within.l0]
      rw [if_pos (by omega), if_pos (by omega), if_pos (by omega), rd_get hif, if_pos c0]
    · by_cases c1 : f[i] > (l[i]).f2
      · refine Ev.step (f := fun _ => some 3) (fun k => ?_) (Ev.now _)
        simp only [flow_within.l0]
        rw [if_pos (by omega), if_pos (by omega), if_pos (by omega), rd_get hif, rdT_get hil, if_neg c0, if_pos (by omega), if_pos c1]
      · have hne : i ≠ j := by
          rintro rfl
          exact h4 ⟨by omega, by omega⟩
        refine Ev.step (fun k => ?_) (ih (i + 1) (by omega) ⟨j, by omega, h2, h3, h4⟩)
        simp only [flow_within.l0]
        rw [if_pos (by omega), if_pos (by omega), if_pos (by omega), rd_get hif, rdT_get hil, if_neg c0, if_pos (by omega), if_neg c1, wrap_id (by omega) (by omega)]
        rfl
theorem within_no {n s t : Int} {l : List S34} {f : List Int} (R : Right n s t l) (hlen : f.length = l.length) (W : ¬ Within l f) : Ev (fun k => flow_within.f k n s t l f) 3 := by
  have hex : ∃ j, 0 ≤ j ∧ ∃ (h : j < l.length) (h' : j < f.length), ¬ (0 ≤ f[j] ∧ f[j] ≤ (l[j]).f2) := by
    apply Classical.byContradiction
    intro hn
    refine W (Within.of hlen fun i h h' => ?_)
    apply Classical.byContradiction
    intro hb
    exact hn ⟨i, Nat.zero_le _, h, h', hb⟩
  refine Ev.congr (fun k => ?_) (within_bad (n := n) (s := s) (t := t) hlen R.len f.length 0 (by omega) hex)
  unfold flow_within.f
  rw [R.check]
  simp only [Option.bind_some, if_true]
  rw [if_pos (by omega)]
  rfl
theorem check_loop {n s t : Int} {l : List S34} {x : List Int} (hn : n ≤ 500) (hx : (x.length : Int) = n + 1) (d : Nat) : ∀ i : Nat, (i : Int) + d = n → (∀ v, (i : Int) < v → v ≤ n → v ≠ s → v ≠ t → rd x v = 0) →
    Ev (fun k => flow_Check.l0 k x n (i : Int) n s t l) 0 := by
  induction d with
  | zero =>
    intro i hi _
    refine Ev.step (f := fun _ => some 0) (fun k => ?_) (Ev.now _)
    simp only [flow_Check.l0]
    rw [if_neg (by omega)]
  | succ d ih =>
    intro i hi hz
    refine Ev.step (fun k => ?_) (ih (i + 1) (by omega) (fun v h1 h2 h3 h4 => hz v (by omega) h2 h3 h4))
    simp only [flow_Check.l0]
    rw [if_pos (by omega), wrap_id (by omega) (by omega)]
    by_cases c1 : (i : Int) + 1 = s
    · rw [if_pos c1]; rfl
    · by_cases c2 : (i : Int) + 1 = t
      · rw [if_neg c1, if_pos c2]; rfl
      · rw [if_neg c1, if_neg c2, if_pos (by omega), if_pos (by omega), if_pos (hz _ (by omega) (by omega) c1 c2)]; rfl
theorem check_bad {n s t : Int} {l : List S34} {x : List Int} (hn : n ≤ 500) (hx : (x.length : Int) = n + 1) (d : Nat) : ∀ i : Nat, (i : Int) + d = n → (∃ v, (i : Int) < v ∧ v ≤ n ∧ v ≠ s ∧ v ≠ t ∧ rd x v ≠ 0) →
    Ev (fun k => flow_Check.l0 k x n (i : Int) n s t l) 9 := by
  induction d with
  | zero => intro i hi ⟨v, h1, h2, _⟩; omega
  | succ d ih =>
    intro i hi ⟨v, h1, h2, h3, h4, h5⟩
    by_cases c1 : (i : Int) + 1 = s
    · refine Ev.step (fun k => ?_) (ih (i + 1) (by omega) ⟨v, by omega, h2, h3, h4, h5⟩)
      simp only [flow_Check.l0]
      rw [if_pos (by omega), wrap_id (by omega) (by omega), if_pos c1]; rfl
    · by_cases c2 : (i : Int) + 1 = t
      · refine Ev.step (fun k => ?_) (ih (i + 1) (by omega) ⟨v, by omega, h2, h3, h4, h5⟩)
        simp only [flow_Check.l0]
        rw [if_pos (by omega), wrap_id (by omega) (by omega), if_neg c1, if_pos c2]; rfl
      · by_cases c3 : rd x ((i : Int) + 1) = 0
        · refine Ev.step (fun k => ?_) (ih (i + 1) (by omega) ⟨v, by
            by_cases e : v = (i : Int) + 1
            · rw [e] at h5; exact absurd c3 h5
            · omega, h2, h3, h4, h5⟩)
          simp only [flow_Check.l0]
          rw [if_pos (by omega), wrap_id (by omega) (by omega), if_neg c1, if_neg c2, if_pos (by omega), if_pos (by omega), if_pos c3]; rfl
        · refine Ev.step (f := fun _ => some 9) (fun k => ?_) (Ev.now _)
          simp only [flow_Check.l0]
          rw [if_pos (by omega), wrap_id (by omega) (by omega), if_neg c1, if_neg c2, if_pos (by omega), if_pos (by omega), if_neg c3]
theorem check_flow {n s t : Int} {l : List S34} {f : List Int} (R : Right n s t l) (F : IsFlow n s t l f) : Ev (fun k => flow_Check.f k n s t l f) 0 := by
  obtain ⟨x, h1, h2, h3⟩ := excesses_ev R F.within
  have hn := R.n2
  unfold flow_Check.f
  refine Ev.bind (within_yes R F.within) ?_
  simp only [if_true]
  refine Ev.bind h1 ?_
  exact check_loop R.n500 h2 n.toNat 0 (by omega) (fun v hv1 hv2 hv3 hv4 => by rw [h3 v (by omega) hv2]; exact F.cons v (by omega) hv2 hv3 hv4)
theorem check_state {n s t : Int} {l : List S34} {f : List Int} (R : Right n s t l) (W : Within l f) {v : Int} (v1 : 1 ≤ v) (vn : v ≤ n) (vs : v ≠ s) (vt : v ≠ t) (hv : exc l f v ≠ 0) : Ev (fun k => flow_Check.f k n s t l f) 9 := by
  obtain ⟨x, h1, h2, h3⟩ := excesses_ev R W
  have hn := R.n2
  unfold flow_Check.f
  refine Ev.bind (within_yes R W) ?_
  simp only [if_true]
  refine Ev.bind h1 ?_
  exact check_bad R.n500 h2 n.toNat 0 (by omega) ⟨v, by omega, vn, vs, vt, by rw [h3 v (by omega) vn]; exact hv⟩
theorem check_range {n s t : Int} {l : List S34} {f : List Int} (R : Right n s t l) (hlen : f.length = l.length) (W : ¬ Within l f) : Ev (fun k => flow_Check.f k n s t l f) 3 := by
  unfold flow_Check.f
  refine Ev.bind (within_no R hlen W) ?_
  exact Ev.congr (fun k => if_neg (by decide)) (Ev.now 3)
theorem value_flow {n s t : Int} {l : List S34} {f : List Int} (R : Right n s t l) (F : IsFlow n s t l f) : Ev (fun k => flow_Value.f k n s t l f) (exc l f t, 0) := by
  obtain ⟨x, h1, h2, h3⟩ := excesses_ev R F.within
  have ht1 := R.t1
  have htn := R.tn
  unfold flow_Value.f
  refine Ev.bind (check_flow R F) ?_
  simp only [if_true]
  refine Ev.bind h1 ?_
  refine Ev.congr (fun k => ?_) (Ev.now (exc l f t, 0))
  rw [if_pos (by omega), if_pos (by omega), h3 t (by omega) htn]
theorem rdOf_set {m : List Bool} {j u : Int} {b : Bool} (h0 : 0 ≤ j) (h1 : j < (m.length : Int)) (hu : 0 ≤ u) : rdOf false (m.set j.toNat b) u = if j = u then b else rdOf false m u := by
  unfold rdOf
  rw [List.getD_eq_getElem?_getD, List.getD_eq_getElem?_getD, List.getElem?_set]
  by_cases e : j = u
  · subst e
    rw [if_pos rfl, if_pos (by omega), if_pos rfl]; rfl
  · rw [if_neg (by omega), if_neg e]
/-- How many nodes were not met. -/
def cntF : List Bool → Nat
  | [] => 0
  | b :: m => (if b = true then 0 else 1) + cntF m
theorem cntF_set : ∀ {m : List Bool} {i : Nat}, i < m.length → m.getD i false = false → cntF (m.set i true) + 1 = cntF m
  | [], _, h, _ => absurd h (by simp)
  | b :: m, 0, _, h => by
    have hb : b = false := by simpa using h
    subst hb
    simp [cntF]; omega
  | b :: m, i + 1, h, hb => by
    have := cntF_set (m := m) (i := i) (by simpa using h) (by simpa using hb)
    simp only [List.set_cons_succ, cntF]; omega
theorem cntF_replicate (k : Nat) : cntF (List.replicate k false) = k := by
  induction k with
  | zero => rfl
  | succ k ih => simp only [List.replicate_succ, cntF, ih]; simp; omega
/-- A walk along arcs, by their numbers. -/
def Path (l : List S34) : Int → List Int → Int → Prop
  | u, [], v => u = v
  | u, i :: w, v => (rd_T34 l i).f0 = u ∧ Path l (rd_T34 l i).f1 w v
theorem Path.snoc {l : List S34} : ∀ {w : List Int} {u v i : Int}, Path l u w v → (rd_T34 l i).f0 = v → Path l u (w ++ [i]) (rd_T34 l i).f1
  | [], u, v, i, h, hi => ⟨by rw [hi]; exact h.symm, rfl⟩
  | _ :: w, u, v, i, h, hi => ⟨h.1, Path.snoc h.2 hi⟩
/-- What walked tells: nothing, or a walk from source to sink, along which there is room. -/
def GoodWalk (l : List S34) (f : List Int) (s t : Int) (w : List Int) : Prop :=
  w = [] ∨ (Path l s w t ∧ w.Nodup ∧ ∀ j ∈ w, 0 ≤ j ∧ j < (l.length : Int) ∧ rd f j < (rd_T34 l j).f2)
def FitOk (l : List S34) (f : List Int) (met : List Bool) (at_ : Int) (F : List Int) : Prop :=
  ∀ j ∈ F, 0 ≤ j ∧ j < (l.length : Int) ∧ (rd_T34 l j).f0 = at_ ∧ rdOf false met (rd_T34 l j).f1 = false ∧ rd f j < (rd_T34 l j).f2
theorem wrap_succ {i : Nat} (h : i ≤ 1000000) : wrap64 ((i : Int) + 1) = ((i + 1 : Nat) : Int) := by rw [wrap_id (by omega) (by omega)]; rfl
theorem fit_run {n s t at_ raw : Int} {l : List S34} {f w : List Int} {met : List Bool} (hg : ∀ a ∈ l, GoodArc n a) (hlen : f.length = l.length) (hl : l.length ≤ 2000) (hm : (met.length : Int) = n + 1) (Q : List Int → Prop)
    (H : ∀ F, FitOk l f met at_ F → F.length ≤ l.length → ∃ r, Ev (fun k => racewaylaw5_walked.l1 k f raw met at_ w F (l.length : Int) n s t l) r ∧ Q r) (d : Nat) :
    ∀ (i : Nat) (F : List Int), i + d = l.length → FitOk l f met at_ F → F.length ≤ i → ∃ r, Ev (fun k => racewaylaw5_walked.l1 k f raw met at_ w F (i : Int) n s t l) r ∧ Q r := by
  induction d with
  | zero =>
    intro i F hi hF hlF
    obtain rfl : i = l.length := by omega
    exact H F hF hlF
  | succ d ih =>
    intro i F hi hF hlF
    have hil : i < l.length := by omega
    have hif : i < f.length := by omega
    obtain ⟨g0, g1, g2, g3, g4⟩ := hg l[i] (List.getElem_mem hil)
    by_cases c0 : (l[i]).f0 = at_
    · by_cases c1 : rdOf false met (l[i]).f1 = true
      · obtain ⟨r, hr, hq⟩ := ih (i + 1) F (by omega) hF (by omega)
        refine ⟨r, Ev.step (fun k => ?_) hr, hq⟩
        simp only [racewaylaw5_walked.l1]
        rw [if_pos (by omega), if_pos (by omega), rdT_get hil, if_pos c0, if_pos (by omega), if_pos (by omega), if_pos c1, wrap_succ (by omega)]
      · by_cases c2 : f[i] < (l[i]).f2
        · obtain ⟨r, hr, hq⟩ := ih (i + 1) (F ++ [(i : Int)]) (by omega) (fun j hj => by
            rcases List.mem_append.1 hj with hj | hj
            · exact hF j hj
            · obtain rfl := List.mem_singleton.1 hj
              rw [rdT_get hil, rd_get hif]
              exact ⟨by omega, by omega, c0, by simpa using c1, c2⟩) (by simp; omega)
          refine ⟨r, Ev.step (fun k => ?_) hr, hq⟩
          simp only [racewaylaw5_walked.l1]
          rw [if_pos (by omega), if_pos (by omega), rdT_get hil, rd_get hif, if_pos c0, if_pos (by omega), if_pos (by omega), if_neg c1, if_pos (by omega), if_pos c2, if_pos (by omega), wrap_succ (by omega)]
        · obtain ⟨r, hr, hq⟩ := ih (i + 1) F (by omega) hF (by omega)
          refine ⟨r, Ev.step (fun k => ?_) hr, hq⟩
          simp only [racewaylaw5_walked.l1]
          rw [if_pos (by omega), if_pos (by omega), rdT_get hil, rd_get hif, if_pos c0, if_pos (by omega), if_pos (by omega), if_neg c1, if_pos (by omega), if_neg c2, wrap_succ (by omega)]
    · obtain ⟨r, hr, hq⟩ := ih (i + 1) F (by omega) hF (by omega)
      refine ⟨r, Ev.step (fun k => ?_) hr, hq⟩
      simp only [racewaylaw5_walked.l1]
      rw [if_pos (by omega), if_pos (by omega), rdT_get hil, if_neg c0, wrap_succ (by omega)]
theorem rd_mem {F : List Int} {i : Int} (h0 : 0 ≤ i) (h1 : i < (F.length : Int)) : rd F i ∈ F := by
  have hlt : i.toNat < F.length := by omega
  have : rd F i = F[i.toNat] := by unfold rd; rw [List.getD_eq_getElem?_getD, List.getElem?_eq_getElem hlt]; rfl
  rw [this]; exact List.getElem_mem hlt
theorem rdT_mem {l : List S34} {i : Int} (h0 : 0 ≤ i) (h1 : i < (l.length : Int)) : rd_T34 l i ∈ l := by
  have hlt : i.toNat < l.length := by omega
  have : rd_T34 l i = l[i.toNat] := by unfold rd_T34; rw [List.getD_eq_getElem?_getD, List.getElem?_eq_getElem hlt]; rfl
  rw [this]; exact List.getElem_mem hlt
theorem walk_run {n s t raw : Int} {l : List S34} {f : List Int} (hraw : (Lit.int .i64 raw).wf = true) (hg : ∀ a ∈ l, GoodArc n a) (hlen : f.length = l.length) (hl : l.length ≤ 2000) (hn : n ≤ 500) (c : Nat) :
    ∀ (met : List Bool) (at_ : Int) (w : List Int), cntF met = c → (met.length : Int) = n + 1 → (w.length : Int) + c ≤ n + 1 → Path l s w at_ → w.Nodup →
      (∀ j ∈ w, 0 ≤ j ∧ j < (l.length : Int) ∧ rd f j < (rd_T34 l j).f2 ∧ rdOf false met (rd_T34 l j).f1 = true) →
      ∃ r, Ev (fun k => racewaylaw5_walked.l0 k f raw met at_ w n s t l) r ∧ GoodWalk l f s t r := by
  obtain ⟨r0, r1⟩ := wf_bounds hraw
  induction c with
  | zero =>
    intro met at_ w hc hm hw hp hnd hj
    by_cases ht : at_ = t
    · refine ⟨w, Ev.step (f := fun _ => some w) (fun k => ?_) (Ev.now _), Or.inr ⟨by rw [← ht]; exact hp, hnd, fun j h => ⟨(hj j h).1, (hj j h).2.1, (hj j h).2.2.1⟩⟩⟩
      simp only [racewaylaw5_walked.l0]
      rw [if_pos ht]
    · obtain ⟨r, hr, hq⟩ := fit_run (n := n) (s := s) (t := t) (at_ := at_) (raw := raw) (w := w) hg hlen hl hm (GoodWalk l f s t) (fun F hF hFl => by
        have hF0 : F = [] := by
          cases F with
          | nil => rfl
          | cons j F =>
            exfalso
            obtain ⟨h0, h1, h2, h3, h4⟩ := hF j List.mem_cons_self
            obtain ⟨g0, g1, g2, g3, _⟩ := hg _ (rdT_mem h0 h1)
            have := cntF_set (m := met) (i := ((rd_T34 l j).f1).toNat) (by omega) h3
            omega
        subst hF0
        refine ⟨[], Ev.step (f := fun _ => some []) (fun k => ?_) (Ev.now _), Or.inl rfl⟩
        simp only [racewaylaw5_walked.l1]
        rw [if_neg (by omega), if_pos (show (([] : List Int).length : Int) = 0 from rfl)]) l.length 0 [] (by omega) (fun j h => by cases h) (Nat.le_refl _)
      refine ⟨r, Ev.step (fun k => ?_) hr, hq⟩
      simp only [racewaylaw5_walked.l0]
      rw [if_neg ht]
      rfl
  | succ c ih =>
    intro met at_ w hc hm hw hp hnd hj
    by_cases ht : at_ = t
    · refine ⟨w, Ev.step (f := fun _ => some w) (fun k => ?_) (Ev.now _), Or.inr ⟨by rw [← ht]; exact hp, hnd, fun j h => ⟨(hj j h).1, (hj j h).2.1, (hj j h).2.2.1⟩⟩⟩
      simp only [racewaylaw5_walked.l0]
      rw [if_pos ht]
    · obtain ⟨r, hr, hq⟩ := fit_run (n := n) (s := s) (t := t) (at_ := at_) (raw := raw) (w := w) hg hlen hl hm (GoodWalk l f s t) (fun F hF hFl => by
        by_cases hF0 : F.length = 0
        · refine ⟨[], Ev.step (f := fun _ => some []) (fun k => ?_) (Ev.now _), Or.inl rfl⟩
          simp only [racewaylaw5_walked.l1]
          rw [if_neg (by omega), if_pos (by omega)]
        · obtain ⟨d0, d1⟩ := tdiv_bounds r0 r1 (d := (w.length : Int) + 1) (by omega)
          obtain ⟨p0, p1⟩ := pk_range (c := Int.tdiv raw ((w.length : Int) + 1)) (n := (F.length : Int)) (by omega)
          obtain ⟨j, hjd⟩ : ∃ j, rd F (pk (Int.tdiv raw ((w.length : Int) + 1)) (F.length : Int)) = j := ⟨_, rfl⟩
          obtain ⟨h0, h1, h2, h3, h4⟩ := hF j (by rw [← hjd]; exact rd_mem p0 p1)
          obtain ⟨g0, g1, g2, g3, _⟩ := hg _ (rdT_mem h0 h1)
          have hcs := cntF_set (m := met) (i := ((rd_T34 l j).f1).toNat) (by omega) h3
          obtain ⟨r, hr, hq⟩ := ih (met.set ((rd_T34 l j).f1).toNat true) (rd_T34 l j).f1 (w ++ [j]) (by omega) (by rw [List.length_set]; exact hm) (by simp; omega) (Path.snoc hp h2)
            (by
              rw [List.nodup_append]
              refine ⟨hnd, by simp, fun a ha b hb => ?_⟩
              obtain rfl := List.mem_singleton.1 hb
              rintro rfl
              have := (hj a ha).2.2.2
              rw [this] at h3; cases h3)
            (fun i hi => by
              rcases List.mem_append.1 hi with hi | hi
              · obtain ⟨q0, q1, q2, q3⟩ := hj i hi
                obtain ⟨_, _, k2, k3, _⟩ := hg _ (rdT_mem q0 q1)
                refine ⟨q0, q1, q2, ?_⟩
                rw [rdOf_set (by omega) (by omega) (by omega)]
                split
                · rfl
                · exact q3
              · obtain rfl := List.mem_singleton.1 hi
                refine ⟨h0, h1, h4, ?_⟩
                rw [rdOf_set (by omega) (by omega) (by omega), if_pos rfl])
          refine ⟨r, Ev.step (fun k => ?_) hr, hq⟩
          simp only [racewaylaw5_walked.l1]
          rw [if_neg (by omega), if_neg (by omega), wrap_id (x := (w.length : Int) + 1) (by omega) (by omega), if_neg (by omega), wrap_id d0 d1, pick_eq d0 d1 (by omega)]
          simp only [Option.bind_some]
          rw [if_pos p0, if_pos p1, if_pos (by omega), hjd, if_pos h0, if_pos h1, if_pos (by omega), if_pos (by omega)]) l.length 0 [] (by omega) (fun j h => by cases h) (Nat.le_refl _)
      refine ⟨r, Ev.step (fun k => ?_) hr, hq⟩
      simp only [racewaylaw5_walked.l0]
      rw [if_neg ht]
      rfl
theorem walked_ev {n s t raw : Int} {l : List S34} {f : List Int} (R : Right n s t l) (hlen : f.length = l.length) (hraw : (Lit.int .i64 raw).wf = true) :
    ∃ w, Ev (fun k => racewaylaw5_walked.f k n s t l f raw) w ∧ GoodWalk l f s t w := by
  have hn := R.n500
  have hn2 := R.n2
  have hs1 := R.s1
  have hsn := R.sn
  have hl1 : (List.replicate (n + 1).toNat false).length = (n + 1).toNat := List.length_replicate
  have hc0 : (List.replicate (n + 1).toNat false).getD s.toNat false = false := by
    rw [List.getD_eq_getElem?_getD, List.getElem?_replicate]; split <;> rfl
  have hcs := cntF_set (m := List.replicate (n + 1).toNat false) (i := s.toNat) (by omega) hc0
  rw [cntF_replicate] at hcs
  obtain ⟨r, hr, hq⟩ := walk_run (n := n) (s := s) (t := t) (raw := raw) hraw R.arcs hlen R.len hn (cntF ((List.replicate (n + 1).toNat false).set s.toNat true)) ((List.replicate (n + 1).toNat false).set s.toNat true) s [] rfl (by simp; omega) (by simp; omega) rfl List.nodup_nil (fun j h => by cases h)
  refine ⟨r, Ev.congr (fun k => ?_) hr, hq⟩
  unfold racewaylaw5_walked.f
  rw [wrap_id (x := n + 1) (by omega) (by omega), if_pos (by omega), if_pos (by omega)]
  simp only [Option.bind_some]
  rw [if_pos (by omega), if_pos (by omega)]
/-- An amount led along a walk. -/
def push (f : List Int) (m : Int) : List Int → List Int
  | [] => f
  | j :: w => push (f.set j.toNat (rd f j + m)) m w
theorem push_rd {m : Int} : ∀ {w : List Int} {f : List Int}, (∀ j ∈ w, 0 ≤ j ∧ j < (f.length : Int)) → w.Nodup → ∀ i, 0 ≤ i → rd (push f m w) i = rd f i + if i ∈ w then m else 0
  | [], f, _, _, i, _ => by simp [push]
  | j :: w, f, h, hn, i, hi => by
    obtain ⟨h0, h1⟩ := h j List.mem_cons_self
    have hj := (List.nodup_cons.1 hn).1
    rw [push, push_rd (fun k hk => by rw [List.length_set]; exact h k (List.mem_cons_of_mem _ hk)) (List.nodup_cons.1 hn).2 i hi, rd_set h0 h1 hi]
    by_cases e : j = i
    · subst e
      rw [if_pos rfl, if_neg hj, if_pos List.mem_cons_self]; omega
    · rw [if_neg e]
      by_cases c : i ∈ w
      · rw [if_pos c, if_pos (List.mem_cons_of_mem _ c)]
      · rw [if_neg c, if_neg (fun hc => by rcases List.mem_cons.1 hc with hc | hc; exact e hc.symm; exact c hc)]
theorem rd_nat {f : List Int} {j : Int} (h0 : 0 ≤ j) (h1 : j < (f.length : Int)) (h : j.toNat < f.length) : f[j.toNat] = rd f j := by
  unfold rd; rw [List.getD_eq_getElem?_getD, List.getElem?_eq_getElem h]; rfl
theorem rdT_nat {l : List S34} {j : Int} (h0 : 0 ≤ j) (h1 : j < (l.length : Int)) (h : j.toNat < l.length) : l[j.toNat] = rd_T34 l j := by
  unfold rd_T34; rw [List.getD_eq_getElem?_getD, List.getElem?_eq_getElem h]; rfl
theorem push_within {l : List S34} {m : Int} (hm : 0 ≤ m) : ∀ {w : List Int} {f : List Int}, Within l f → w.Nodup → (∀ j ∈ w, 0 ≤ j ∧ j < (l.length : Int) ∧ rd f j + m ≤ (rd_T34 l j).f2) → Within l (push f m w)
  | [], f, W, _, _ => W
  | j :: w, f, W, hn, h => by
    obtain ⟨h0, h1, h2⟩ := h j List.mem_cons_self
    have hlen := W.len
    have hj := (List.nodup_cons.1 hn).1
    have hjl : j.toNat < l.length := by omega
    have hjf : j.toNat < f.length := by omega
    have hb := W.get j.toNat hjl hjf
    rw [rd_nat h0 (by omega) hjf, rdT_nat h0 h1 hjl] at hb
    rw [push]
    refine push_within hm (W.set j.toNat _ (by omega) (fun h' => by rw [rdT_nat h0 h1 h']; exact h2)) (List.nodup_cons.1 hn).2 (fun i hi => ?_)
    obtain ⟨q0, q1, q2⟩ := h i (List.mem_cons_of_mem _ hi)
    refine ⟨q0, q1, ?_⟩
    rw [rd_set h0 (by omega) q0, if_neg (fun e => hj (by rw [e]; exact hi))]
    exact q2
theorem push_exc {l : List S34} {m v : Int} : ∀ {w : List Int} {f : List Int} {a b : Int}, Path l a w b → f.length = l.length → (∀ j ∈ w, 0 ≤ j ∧ j < (l.length : Int)) →
    exc l (push f m w) v = exc l f v + ((if b = v then m else 0) - (if a = v then m else 0))
  | [], f, a, b, hp, _, _ => by
    have : a = b := hp
    subst this
    simp only [push]; omega
  | j :: w, f, a, b, hp, hlen, h => by
    obtain ⟨h0, h1⟩ := h j List.mem_cons_self
    obtain ⟨e0, hp⟩ := hp
    have hjl : j.toNat < l.length := by omega
    have hjf : j.toNat < f.length := by omega
    rw [push, push_exc hp (by rw [List.length_set]; exact hlen) (fun i hi => h i (List.mem_cons_of_mem _ hi)), exc_set j.toNat _ v hjl hjf, rd_nat h0 (by omega) hjf, rdT_nat h0 h1 hjl, e0]
    have e : rd f j + m - rd f j = m := by omega
    rw [e]; omega
/-- One more walk is led. -/
def Step (l : List S34) (s t : Int) (f g : List Int) : Prop :=
  g = f ∨ ∃ w m, 1 ≤ m ∧ Path l s w t ∧ w.Nodup ∧ (∀ j ∈ w, 0 ≤ j ∧ j < (l.length : Int) ∧ rd f j + m ≤ (rd_T34 l j).f2) ∧ g = push f m w
theorem Step.flow {n s t : Int} {l : List S34} {f g : List Int} (h : Step l s t f g) (F : IsFlow n s t l f) : IsFlow n s t l g := by
  rcases h with rfl | ⟨w, m, hm, hp, hn, hj, rfl⟩
  · exact F
  · refine ⟨push_within (by omega) F.within hn hj, fun v h1 h2 h3 h4 => ?_⟩
    rw [push_exc hp F.within.len (fun j h => ⟨(hj j h).1, (hj j h).2.1⟩), F.cons v h1 h2 h3 h4, if_neg (fun e => h4 e.symm), if_neg (fun e => h3 e.symm)]; rfl
theorem Step.le {n s t : Int} {l : List S34} {f g : List Int} (h : Step l s t f g) (F : IsFlow n s t l f) : ∀ i, 0 ≤ i → rd f i ≤ rd g i := by
  intro i hi
  rcases h with rfl | ⟨w, m, hm, hp, hn, hj, rfl⟩
  · exact Int.le_refl _
  · have hlen := F.within.len
    rw [push_rd (fun j h => ⟨(hj j h).1, by have := (hj j h).2.1; omega⟩) hn i hi]
    split <;> omega
theorem Step.value {n s t : Int} {l : List S34} {f g : List Int} (h : Step l s t f g) (F : IsFlow n s t l f) (hst : s ≠ t) : exc l f t ≤ exc l g t := by
  rcases h with rfl | ⟨w, m, hm, hp, hn, hj, rfl⟩
  · exact Int.le_refl _
  · rw [push_exc hp F.within.len (fun j h => ⟨(hj j h).1, (hj j h).2.1⟩), if_pos rfl, if_neg hst]; omega
theorem most_run {n s t : Int} {l : List S34} {f w : List Int} (W : Within l f) (hcap : ∀ a ∈ l, a.f2 < 1000000000000) (hj : ∀ j ∈ w, 0 ≤ j ∧ j < (l.length : Int) ∧ rd f j < (rd_T34 l j).f2) (hwl : w.length ≤ 1000000) (d : Nat) :
    ∀ (j : Nat) (m : Int), j + d = w.length → 1 ≤ m → (∀ q, q < j → ∀ h : q < w.length, rd f w[q] + m ≤ (rd_T34 l w[q]).f2) →
      ∃ m', 1 ≤ m' ∧ m' ≤ m ∧ (∀ q ∈ w, rd f q + m' ≤ (rd_T34 l q).f2) ∧ ∀ (raws : List Int) (i : Int) r, Ev (fun k => racewaylaw5_routed.l2 k raws f i w m' 0 n s t l) r → Ev (fun k => racewaylaw5_routed.l1 k raws f i w m (j : Int) n s t l) r := by
  have hlen := W.len
  induction d with
  | zero =>
    intro j m hjd hm hq
    refine ⟨m, hm, Int.le_refl _, fun q hq' => ?_, fun raws i r hr => Ev.step (fun k => ?_) hr⟩
    · obtain ⟨p, hp, rfl⟩ := List.getElem_of_mem hq'
      exact hq p (by omega) hp
    · simp only [racewaylaw5_routed.l1]
      rw [if_neg (by omega)]
  | succ d ih =>
    intro j m hjd hm hq
    have hjw : j < w.length := by omega
    obtain ⟨h0, h1, h2⟩ := hj w[j] (List.getElem_mem hjw)
    have hc := hcap _ (rdT_mem h0 h1)
    have hb := W.get (w[j]).toNat (by omega) (by omega)
    rw [rd_nat h0 (by omega) (by omega), rdT_nat h0 h1 (by omega)] at hb
    obtain ⟨x, hx⟩ : ∃ x, (rd_T34 l w[j]).f2 - rd f w[j] = x := ⟨_, rfl⟩
    have hmn : 1 ≤ mn m x ∧ mn m x ≤ m ∧ mn m x ≤ x := by unfold mn; split <;> omega
    obtain ⟨m', g0, g1, g2, g3⟩ := ih (j + 1) (mn m x) (by omega) hmn.1 (fun q hqj hqw => by
      by_cases e : q = j
      · subst e; omega
      · have := hq q (by omega) hqw; omega)
    refine ⟨m', g0, by omega, g2, fun raws i r hr => Ev.step (fun k => ?_) (g3 raws i r hr)⟩
    simp only [racewaylaw5_routed.l1]
    rw [if_pos (by omega), if_pos (by omega), rd_get hjw, if_pos h0, if_pos h1, if_pos (by omega), wrap_id (by omega) (by omega), hx, wrap_succ (by omega)]
theorem push_run {n s t m : Int} {l : List S34} {raws w : List Int} {i : Nat} (hi : i ≤ 1000) (hm : 1 ≤ m) (hm2 : m ≤ 1000000000000) (hcap : ∀ a ∈ l, a.f2 < 1000000000000) (hwl : w.length ≤ 1000000) (d : Nat) :
    ∀ (j : Nat) (f : List Int), j + d = w.length → Within l f → (w.drop j).Nodup → (∀ q ∈ w.drop j, 0 ≤ q ∧ q < (l.length : Int) ∧ rd f q + m ≤ (rd_T34 l q).f2) →
      ∀ r, Ev (fun k => racewaylaw5_routed.l0 k raws (push f m (w.drop j)) ((i + 1 : Nat) : Int) n s t l) r → Ev (fun k => racewaylaw5_routed.l2 k raws f (i : Int) w m (j : Int) n s t l) r := by
  induction d with
  | zero =>
    intro j f hjd W _ _ r hr
    rw [List.drop_of_length_le (by omega), push] at hr
    refine Ev.step (fun k => ?_) hr
    simp only [racewaylaw5_routed.l2]
    rw [if_neg (by omega), wrap_succ (by omega)]
  | succ d ih =>
    intro j f hjd W hn hq r hr
    have hjw : j < w.length := by omega
    have hlen := W.len
    rw [List.drop_eq_getElem_cons hjw] at hn hq hr
    obtain ⟨h0, h1, h2⟩ := hq w[j] List.mem_cons_self
    have hc := hcap _ (rdT_mem h0 h1)
    have hb := W.get (w[j]).toNat (by omega) (by omega)
    rw [rd_nat h0 (by omega) (by omega), rdT_nat h0 h1 (by omega)] at hb
    have hnot := (List.nodup_cons.1 hn).1
    rw [push] at hr
    refine Ev.step (fun k => ?_) (ih (j + 1) (f.set (w[j]).toNat (rd f w[j] + m)) (by omega) (W.set _ _ (by omega) (fun h' => by rw [rdT_nat h0 h1 h']; exact h2)) (List.nodup_cons.1 hn).2 (fun q hq' => by
      obtain ⟨q0, q1, q2⟩ := hq q (List.mem_cons_of_mem _ hq')
      refine ⟨q0, q1, ?_⟩
      rw [rd_set h0 (by omega) q0, if_neg (fun e => hnot (by rw [e]; exact hq'))]
      exact q2) r hr)
    simp only [racewaylaw5_routed.l2]
    rw [if_pos (by omega), if_pos (by omega), rd_get hjw, if_pos h0, if_pos (by omega), wrap_id (by omega) (by omega), wrap_succ (by omega)]
theorem nodup_bound : ∀ {k : Nat} {w : List Int}, w.Nodup → (∀ j ∈ w, 0 ≤ j ∧ j < (k : Int)) → w.length ≤ k
  | 0, [], _, _ => Nat.le_refl _
  | 0, j :: _, _, h => by have := h j List.mem_cons_self; omega
  | k + 1, w, hn, h => by
    have h1 : (w.erase (k : Int)).length ≤ k := nodup_bound (hn.erase _) (fun j hj => by
      have hjw := List.mem_of_mem_erase hj
      have := h j hjw
      have hne : j ≠ (k : Int) := fun e => by
        rw [e] at hj
        exact (List.Nodup.not_mem_erase hn) hj
      omega)
    have h2 := List.length_erase_le (a := (k : Int)) (l := w)
    have h3 : w.length ≤ (w.erase (k : Int)).length + 1 := by
      rw [List.length_erase]; split <;> omega
    omega
/-- One round of routed. -/
theorem step_ev {n s t raw : Int} {l : List S34} {f : List Int} (R : Right n s t l) (hcap : ∀ a ∈ l, a.f2 < 1000000000000) (W : Within l f) (hraw : (Lit.int .i64 raw).wf = true) :
    ∃ g, Step l s t f g ∧ ∀ (raws : List Int) (i : Nat), i < 8 → i < raws.length → rd raws (i : Int) = raw →
      ∀ r, Ev (fun k => racewaylaw5_routed.l0 k raws g ((i + 1 : Nat) : Int) n s t l) r → Ev (fun k => racewaylaw5_routed.l0 k raws f (i : Int) n s t l) r := by
  obtain ⟨w, hw, hgood⟩ := walked_ev (f := f) (raw := raw) R W.len hraw
  obtain ⟨r0, r1⟩ := wf_bounds hraw
  have p := pk_range (c := raw) (n := 30) (by omega)
  have hl := R.len
  have hwp : (∀ j ∈ w, 0 ≤ j ∧ j < (l.length : Int) ∧ rd f j < (rd_T34 l j).f2) ∧ w.Nodup := by
    rcases hgood with rfl | ⟨_, h1, h2⟩
    · exact ⟨(fun j hj => by cases hj), List.nodup_nil⟩
    · exact ⟨h2, h1⟩
  have hwl := nodup_bound hwp.2 (fun j hj => ⟨(hwp.1 j hj).1, (hwp.1 j hj).2.1⟩)
  obtain ⟨m, m0, m1, m2, m3⟩ := most_run (n := n) (s := s) (t := t) W hcap hwp.1 (by omega) w.length 0 (pk raw 30 + 1) (by omega) (by omega) (fun q hq => by omega)
  refine ⟨push f m w, ?_, fun raws i hi hir hrr r hr => ?_⟩
  · rcases hgood with rfl | ⟨hp, h1, h2⟩
    · exact Or.inl rfl
    · exact Or.inr ⟨w, m, m0, hp, h1, fun j hj => ⟨(hwp.1 j hj).1, (hwp.1 j hj).2.1, m2 j hj⟩, rfl⟩
  · have h2 := push_run (n := n) (s := s) (t := t) (m := m) (raws := raws) (w := w) (i := i) (by omega) m0 (by omega) hcap (by omega) w.length 0 f (by omega) W (by rw [List.drop_zero]; exact hwp.2) (by rw [List.drop_zero]; exact fun q hq => ⟨(hwp.1 q hq).1, (hwp.1 q hq).2.1, m2 q hq⟩) r (by rw [List.drop_zero]; exact hr)
    have h1 := m3 raws (i : Int) r h2
    refine Ev.step (f := fun k => racewaylaw5_routed.j1 k raws f (i : Int) true n s t l) (fun k => ?_) (Ev.step (f := fun k => (racewaylaw5_walked.f k n s t l f raw).bind fun w => (racewaylaw5_pick.f raw 30).bind fun p => racewaylaw5_routed.l1 k raws f (i : Int) w (wrap64 (p + 1)) 0 n s t l) (fun k => ?_) (Ev.bind hw (Ev.congr (fun k => ?_) h1)))
    · simp only [racewaylaw5_routed.l0]
      rw [if_pos (by omega), decide_eq_true (by omega)]
    · simp only [racewaylaw5_routed.j1, if_true]
      rw [if_pos (by omega), if_pos (by omega), hrr]
    · rw [pick_eq r0 r1 (by omega)]
      simp only [Option.bind_some]
      rw [wrap_id (by omega) (by omega)]
      rfl
theorem steps_ev {n s t : Int} {l : List S34} (R : Right n s t l) (hcap : ∀ a ∈ l, a.f2 < 1000000000000) {raws : List Int} (hraws : ∀ x ∈ raws, (Lit.int .i64 x).wf = true) (d : Nat) :
    ∀ (i : Nat) (f : List Int), i + d = min raws.length 8 → IsFlow n s t l f → ∃ g, IsFlow n s t l g ∧ (∀ j, 0 ≤ j → rd f j ≤ rd g j) ∧ exc l f t ≤ exc l g t ∧ Ev (fun k => racewaylaw5_routed.l0 k raws f (i : Int) n s t l) g := by
  induction d with
  | zero =>
    intro i f hi F
    refine ⟨f, F, fun _ _ => Int.le_refl _, Int.le_refl _, ?_⟩
    refine Ev.step (f := fun k => racewaylaw5_routed.j1 k raws f (i : Int) false n s t l) (fun k => ?_) (Ev.step (f := fun _ => some f) (fun k => ?_) (Ev.now _))
    · simp only [racewaylaw5_routed.l0]
      by_cases c : (i : Int) < (raws.length : Int)
      · rw [if_pos c, decide_eq_false (by omega)]
      · rw [if_neg c]
    · simp [racewaylaw5_routed.j1]
  | succ d ih =>
    intro i f hi F
    have hir : i < raws.length := by omega
    obtain ⟨g, hs, hg⟩ := step_ev (raw := rd raws (i : Int)) R hcap F.within (hraws _ (rd_mem (by omega) (by omega)))
    obtain ⟨h, H1, H2, H3, H4⟩ := ih (i + 1) g (by omega) (hs.flow F)
    exact ⟨h, H1, fun j hj => Int.le_trans (hs.le F j hj) (H2 j hj), Int.le_trans (hs.value F R.ne) H3, hg raws i (by omega) hir rfl h H4⟩
/-- What routed leads is a flow. -/
theorem routed_ev {n s t : Int} {l : List S34} (R : Right n s t l) (hcap : ∀ a ∈ l, a.f2 < 1000000000000) {raws : List Int} (hraws : ∀ x ∈ raws, (Lit.int .i64 x).wf = true) :
    ∃ g, IsFlow n s t l g ∧ 0 ≤ exc l g t ∧ Ev (fun k => racewaylaw5_routed.f k n s t l raws) g := by
  have hl := R.len
  obtain ⟨g, h1, _, h2, h3⟩ := steps_ev R hcap hraws (min raws.length 8) 0 (List.replicate l.length 0) (by omega) (IsFlow.zeros R.arcs)
  rw [exc_zeros] at h2
  refine ⟨g, h1, h2, Ev.congr (fun k => ?_) h3⟩
  unfold racewaylaw5_routed.f
  rw [if_pos (by omega), if_pos (by omega)]
  rfl
theorem same_loop {a b : List Int} (hl : a.length = b.length) (hm : a.length ≤ 1000000) (d : Nat) : ∀ i : Nat, i + d = a.length → Ev (fun k => racewayref5_Same.l0 k a b (i : Int)) (decide (a.drop i = b.drop i)) := by
  induction d with
  | zero =>
    intro i hi
    refine Ev.step (f := fun _ => some (decide (a.drop i = b.drop i))) (fun k => ?_) (Ev.now _)
    simp only [racewayref5_Same.l0]
    rw [if_neg (by omega), List.drop_of_length_le (by omega), List.drop_of_length_le (by omega)]
    simp
  | succ d ih =>
    intro i hi
    have hia : i < a.length := by omega
    have hib : i < b.length := by omega
    by_cases c : a[i] = b[i]
    · have e : decide (a.drop i = b.drop i) = decide (a.drop (i + 1) = b.drop (i + 1)) := by
        have e3 : (a.drop i = b.drop i) ↔ (a.drop (i + 1) = b.drop (i + 1)) := by
          rw [List.drop_eq_getElem_cons hia, List.drop_eq_getElem_cons hib, c]
          exact ⟨fun h => (List.cons.inj h).2, fun h => by rw [h]⟩
        exact decide_eq_decide.2 e3
      rw [e]
      refine Ev.step (fun k => ?_) (ih (i + 1) (by omega))
      simp only [racewayref5_Same.l0]
      rw [if_pos (by omega), if_pos (by omega), if_pos (by omega), rd_get hia, rd_get hib, if_pos c, wrap_id (by omega) (by omega)]
      rfl
    · have e : decide (a.drop i = b.drop i) = false := by
        refine decide_eq_false (fun h => c ?_)
        rw [List.drop_eq_getElem_cons hia, List.drop_eq_getElem_cons hib] at h
        exact (List.cons.inj h).1
      rw [e]
      refine Ev.step (f := fun _ => some false) (fun k => ?_) (Ev.now _)
      simp only [racewayref5_Same.l0]
      rw [if_pos (by omega), if_pos (by omega), if_pos (by omega), rd_get hia, rd_get hib, if_neg c]
theorem same_ev (a b : List Int) (hm : a.length ≤ 1000000) : Ev (fun k => racewayref5_Same.f k a b) (decide (a = b)) := by
  by_cases hl : a.length = b.length
  · have := same_loop hl hm a.length 0 (by omega)
    rw [List.drop_zero, List.drop_zero] at this
    refine Ev.congr (fun k => ?_) this
    unfold racewayref5_Same.f
    rw [if_pos (by omega)]
    rfl
  · have e : decide (a = b) = false := decide_eq_false (fun h => hl (by rw [h]))
    rw [e]
    refine Ev.congr (fun k => ?_) (Ev.now _)
    unfold racewayref5_Same.f
    rw [if_neg (by omega)]
def zipAdd (f g : List Int) : List Int := List.zipWith (· + ·) f g
theorem zipAdd_length {f g : List Int} (h : f.length = g.length) : (zipAdd f g).length = f.length := by unfold zipAdd; rw [List.length_zipWith]; omega
theorem zipAdd_get {f g : List Int} {i : Nat} (h1 : i < f.length) (h2 : i < g.length) (h3 : i < (zipAdd f g).length) : (zipAdd f g)[i] = f[i] + g[i] := List.getElem_zipWith
theorem add_loop {n s t : Int} {l : List S34} {f g : List Int} (hl : l.length ≤ 2000) (Wf : Within l f) (Wg : Within l g) (hcap : ∀ a ∈ l, a.f2 ≤ 4611686018427387903) (hfit : ∀ i (h : i < l.length) (h1 : i < f.length) (h2 : i < g.length), f[i] + g[i] ≤ (l[i]).f2) (d : Nat) :
    ∀ (i : Nat) (out : List Int), i + d = f.length → out.length = f.length → (∀ j (h : j < out.length) (h1 : j < f.length) (h2 : j < g.length), j < i → out[j] = f[j] + g[j]) →
      Ev (fun k => flow_Add.l0 k f g out (f.length : Int) (i : Int) n s t l) (zipAdd f g, 0) := by
  have hf := Wf.len
  have hg := Wg.len
  induction d with
  | zero =>
    intro i out hi ho hv
    have e : out = zipAdd f g := by
      refine List.ext_getElem (by rw [zipAdd_length (by omega)]; exact ho) (fun j h1 h2 => ?_)
      rw [zipAdd_get (by omega) (by omega)]
      exact hv j h1 (by omega) (by omega) (by omega)
    subst e
    refine Ev.step (f := fun _ => some (zipAdd f g, 0)) (fun k => ?_) (Ev.now _)
    simp only [flow_Add.l0]
    rw [if_neg (by omega)]
  | succ d ih =>
    intro i out hi ho hv
    have h1 : i < f.length := by omega
    have h2 : i < g.length := by omega
    have h3 : i < l.length := by omega
    have b1 := Wf.get i h3 h1
    have b2 := Wg.get i h3 h2
    have b3 := hfit i h3 h1 h2
    have b4 := hcap _ (List.getElem_mem h3)
    refine Ev.step (fun k => ?_) (ih (i + 1) (out.set i (f[i] + g[i])) (by omega) (by rw [List.length_set]; exact ho) (fun j q q1 q2 hj => by
      rw [List.getElem_set]
      by_cases e : i = j
      · subst e; rw [if_pos rfl]
      · rw [if_neg e]; exact hv j (by rw [List.length_set] at q; exact q) q1 q2 (by omega)))
    simp only [flow_Add.l0]
    rw [if_pos (by omega), if_pos (by omega), if_pos (by omega), if_pos (by omega), if_pos (by omega), rd_get h1, rd_get h2, wrap_id (by omega) (by omega)]
    simp only [Option.bind_some, Int.toNat_natCast]
    have e : rd (out.set i (f[i] + g[i])) (i : Int) = f[i] + g[i] := by
      rw [rd_get (by rw [List.length_set]; omega), List.getElem_set_self]
    rw [if_pos (by omega), e, rdT_get h3, if_neg (by omega), wrap_id (by omega) (by omega)]
    rfl
theorem add_ev {n s t : Int} {l : List S34} {f g : List Int} (R : Right n s t l) (F : IsFlow n s t l f) (G : IsFlow n s t l g) (hfit : ∀ i (h : i < l.length) (h1 : i < f.length) (h2 : i < g.length), f[i] + g[i] ≤ (l[i]).f2) :
    Ev (fun k => flow_Add.f k n s t l f g) (zipAdd f g, 0) := by
  have hl := R.len
  have hf := F.within.len
  have hcap : ∀ a ∈ l, a.f2 ≤ 4611686018427387903 := by
    have hs := R.sum
    have : ∀ (m : List S34), (∀ a ∈ m, GoodArc n a) → ∀ a ∈ m, a.f2 ≤ sumCap m := by
      intro m
      induction m with
      | nil => intro _ a ha; cases ha
      | cons b m ih =>
        intro hm a ha
        have h1 := sumCap_nonneg (fun x hx => hm x (List.mem_cons_of_mem _ hx))
        have h2 := (hm b List.mem_cons_self).2.2.2.2
        rcases List.mem_cons.1 ha with rfl | ha
        · simp only [sumCap]; omega
        · have := ih (fun x hx => hm x (List.mem_cons_of_mem _ hx)) a ha
          simp only [sumCap]; omega
    intro a ha
    have := this l R.arcs a ha
    omega
  unfold flow_Add.f
  refine Ev.bind (check_flow R F) ?_
  simp only [if_true]
  refine Ev.bind (check_flow R G) ?_
  simp only [if_true]
  refine Ev.congr (fun k => ?_) (add_loop (n := n) (s := s) (t := t) hl F.within G.within hcap hfit f.length 0 (List.replicate f.length 0) (by omega) List.length_replicate (fun j _ _ _ hj => by omega))
  rw [if_pos (by omega), if_pos (by omega)]
  rfl
theorem add_bad_loop {n s t : Int} {l : List S34} {f g : List Int} (hl : l.length ≤ 2000) (Wf : Within l f) (Wg : Within l g) (hcap : ∀ a ∈ l, a.f2 ≤ 4611686018427387903) (d : Nat) :
    ∀ (i : Nat) (out : List Int), i + d = f.length → out.length = f.length → (∃ j, i ≤ j ∧ ∃ (h : j < l.length) (h1 : j < f.length) (h2 : j < g.length), (l[j]).f2 < f[j] + g[j]) →
      Ev (fun k => flow_Add.l0 k f g out (f.length : Int) (i : Int) n s t l) ([], 3) := by
  have hf := Wf.len
  have hg := Wg.len
  induction d with
  | zero => intro i out hi ho ⟨j, h0, h1, h2, h3, _⟩; omega
  | succ d ih =>
    intro i out hi ho ⟨j, q0, q1, q2, q3, q4⟩
    have h1 : i < f.length := by omega
    have h2 : i < g.length := by omega
    have h3 : i < l.length := by omega
    have b1 := Wf.get i h3 h1
    have b2 := Wg.get i h3 h2
    have b4 := hcap _ (List.getElem_mem h3)
    have e : rd (out.set i (f[i] + g[i])) (i : Int) = f[i] + g[i] := by
      rw [rd_get (by rw [List.length_set]; omega), List.getElem_set_self]
    by_cases c : (l[i]).f2 < f[i] + g[i]
    · refine Ev.step (f := fun _ => some ([], 3)) (fun k => ?_) (Ev.now _)
      simp only [flow_Add.l0]
      rw [if_pos (by omega), if_pos (by omega), if_pos (by omega), if_pos (by omega), if_pos (by omega), rd_get h1, rd_get h2, wrap_id (by omega) (by omega)]
      simp only [Option.bind_some, Int.toNat_natCast]
      rw [if_pos (by omega), e, rdT_get h3, if_pos (by omega)]
    · refine Ev.step (fun k => ?_) (ih (i + 1) (out.set i (f[i] + g[i])) (by omega) (by rw [List.length_set]; exact ho) ⟨j, by
        by_cases e2 : i = j
        · subst e2; exact absurd q4 c
        · omega, q1, q2, q3, q4⟩)
      simp only [flow_Add.l0]
      rw [if_pos (by omega), if_pos (by omega), if_pos (by omega), if_pos (by omega), if_pos (by omega), rd_get h1, rd_get h2, wrap_id (by omega) (by omega)]
      simp only [Option.bind_some, Int.toNat_natCast]
      rw [if_pos (by omega), e, rdT_get h3, if_neg (by omega), wrap_id (by omega) (by omega)]
      rfl
theorem shown_ev : Ev (fun k => racewaylaw5_shown.f k) true := by
  have R : Right 2 1 2 [(⟨1, 2, 5⟩ : S34)] := ⟨by omega, by omega, by omega, by omega, by omega, by omega, by omega, by simp, fun a ha => by
    obtain rfl := List.mem_singleton.1 ha
    exact ⟨by decide, by decide, by decide, by decide, by decide⟩, by decide⟩
  have F : IsFlow 2 1 2 [(⟨1, 2, 5⟩ : S34)] [3] := ⟨⟨by decide, by decide, trivial⟩, fun v h1 h2 h3 h4 => by omega⟩
  unfold racewaylaw5_shown.f
  refine Ev.bind (value_flow R F) ?_
  exact Ev.congr (fun k => by simp [exc]) (Ev.now true)
theorem sumCap_le {l : List S34} (h : ∀ a ∈ l, a.f2 < 1000000) : sumCap l ≤ 1000000 * l.length := by
  induction l with
  | nil => simp [sumCap]
  | cons a l ih =>
    have h1 := ih (fun x hx => h x (List.mem_cons_of_mem _ hx))
    have h2 := h a List.mem_cons_self
    simp only [sumCap, List.length_cons]; omega
end Go.Proofs.Ytlkpapkcgafgeaa.Pure
