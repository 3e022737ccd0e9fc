/- Plain lists and numbers, for the law NetParts: no program and no memory. -/
import Derived.Test.YtlkpapkcgafgeaaPNetPartsx0
import Derived.Test.YtlkpapkcgafgeaaPNetPartsx3
import Derived.Test.YtlkpapkcgafgeaaPNetPartsx5
import Derived.Test.YtlkpapkcgafgeaaPNetPartsx6
import Derived.Test.YtlkpapkcgafgeaaPNetPartsx7
import Derived.Test.YtlkpapkcgafgeaaPNetPartsx8
import Derived.Test.YtlkpapkcgafgeaaPNetPartsx9
import Derived.Test.YtlkpapkcgafgeaaPNetPartsx12
import Derived.Test.YtlkpapkcgafgeaaPNetPartsx13
import Derived.Test.YtlkpapkcgafgeaaPNetPartsx14
set_option linter.unusedVariables false
namespace Go.Proofs.Ytlkpapkcgafgeaa.Pure
open Go.RowKit Go.Proofs.Ytlkpapkcgafgeaa.PNetParts Go.Proofs.YtlkpapkcgafgeaaW.PrintWords Go.Proofs.YtlkpapkcgafgeaaW.PrintLast
theorem wrap_id {x : Int} (h0 : -9223372036854775808 ≤ x) (h1 : x ≤ 9223372036854775807) : wrap64 x = x := by unfold wrap64; omega
/-- An arc between nodes 1 to n, of no capacity below 0. -/
def GoodArc (n : Int) (a : S34) : Prop := 1 ≤ a.f0 ∧ a.f0 ≤ n ∧ 1 ≤ a.f1 ∧ a.f1 ≤ n ∧ 0 ≤ a.f2
def sumCap : List S34 → Int
  | [] => 0
  | a :: t => a.f2 + sumCap t
theorem sumCap_app (l m : List S34) : sumCap (l ++ m) = sumCap l + sumCap m := by
  induction l with
  | nil => simp [sumCap]
  | cons a t ih => simp only [List.cons_append, sumCap, ih]; omega
theorem sumCap_nonneg {n : Int} {l : List S34} (h : ∀ a ∈ l, GoodArc n a) : 0 ≤ sumCap l := by
  induction l with
  | nil => exact Int.le_refl 0
  | cons a t ih =>
    have h1 := ih (fun x hx => h x (List.mem_cons_of_mem _ hx))
    have h2 := (h a List.mem_cons_self).2.2.2.2
    simp only [sumCap]; omega
theorem chk_app {n : Int} : ∀ {l m : List S34} {s : Int}, (∀ a ∈ l, GoodArc n a) → 0 ≤ s → s + sumCap l ≤ 4611686018427387903 → chkArcs n (l ++ m) s = chkArcs n m (s + sumCap l)
  | [], m, s, _, _, _ => by simp [sumCap]
  | a :: t, m, s, h, hs, hM => by
    obtain ⟨g0, g1, g2, g3, g4⟩ := h a List.mem_cons_self
    have ht : ∀ x ∈ t, GoodArc n x := fun x hx => h x (List.mem_cons_of_mem _ hx)
    have hn := sumCap_nonneg ht
    simp only [sumCap] at hM
    simp only [List.cons_append, chkArcs]
    rw [if_pos ⟨by omega, by omega⟩, if_pos ⟨g0, g1, g2, g3⟩, if_neg (by omega), if_neg (by omega), chk_app ht (by omega) (by omega)]
    simp only [sumCap]
    rw [Int.add_assoc]
theorem chk_ok {n : Int} {l : List S34} {s : Int} (h : ∀ a ∈ l, GoodArc n a) (hs : 0 ≤ s) (hM : s + sumCap l ≤ 4611686018427387903) : chkArcs n l s = some 0 := by
  have := chk_app (m := []) h hs hM
  rw [List.append_nil] at this
  rw [this, chkArcs]
/-- A right network. -/
structure Right (n s t : Int) (l : List S34) : Prop where
  n2 : 2 ≤ n
  n500 : n ≤ 500
  s1 : 1 ≤ s
  sn : s ≤ n
  t1 : 1 ≤ t
  tn : t ≤ n
  ne : s ≠ t
  len : l.length ≤ 2000
  arcs : ∀ a ∈ l, GoodArc n a
  sum : sumCap l ≤ 4611686018427387903
theorem Right.check {n s t : Int} {l : List S34} (h : Right n s t l) : net_Check.f n s t l = some 0 := by
  unfold net_Check.f
  have h1 := h.n2
  have h2 := h.n500
  have h3 := h.s1
  have h4 := h.sn
  have h5 := h.t1
  have h6 := h.tn
  have h8 := h.len
  rw [if_neg (by omega), if_neg (fun hc => hc ⟨h3, h4, h5, h6⟩), if_neg h.ne, if_neg (by omega)]
  exact chk_ok h.arcs (Int.le_refl 0) (by have := h.sum; omega)
/-- Which of n things the raw number c speaks of. -/
def pk (c n : Int) : Int := if c < 0 then Int.tmod (-(c + 1)) n else Int.tmod c n
theorem pk_range {c n : Int} (hn : 0 < n) : 0 ≤ pk c n ∧ pk c n < n := by
  unfold pk
  split
  · exact ⟨Int.tmod_nonneg _ (by omega), Int.tmod_lt_of_pos _ hn⟩
  · exact ⟨Int.tmod_nonneg _ (by omega), Int.tmod_lt_of_pos _ hn⟩
theorem wf_bounds {c : Int} (h : (Lit.int .i64 c).wf = true) : -9223372036854775808 ≤ c ∧ c ≤ 9223372036854775807 := by
  simp [Lit.wf] at h
  obtain ⟨h1, h2⟩ := h
  have e : IntKind.i64.min = -9223372036854775808 := by decide
  rw [e] at h1
  exact ⟨h1, h2⟩
theorem pick_eq {c n : Int} (h0 : -9223372036854775808 ≤ c) (h1 : c ≤ 9223372036854775807) (hn : 0 < n) : racewaylaw3_pick.f c n = some (pk c n) := by
  unfold racewaylaw3_pick.f pk
  by_cases hc : c < 0
  · have e1 : wrap64 (c + 1) = c + 1 := by unfold wrap64; omega
    have e2 : wrap64 (-(c + 1)) = -(c + 1) := by unfold wrap64; omega
    rw [if_pos hc, if_pos hc, if_neg (by omega), e1, e2]
  · rw [if_neg hc, if_neg hc, if_neg (by omega)]
theorem tdiv_bounds {c d : Int} (h0 : -9223372036854775808 ≤ c) (h1 : c ≤ 9223372036854775807) (hd : 0 < d) : -9223372036854775808 ≤ Int.tdiv c d ∧ Int.tdiv c d ≤ 9223372036854775807 := by
  by_cases hc : 0 ≤ c
  · rw [Int.tdiv_eq_ediv_of_nonneg hc]
    have h2 := Int.ediv_nonneg hc (Int.le_of_lt hd)
    have h3 : c / d ≤ c := Int.ediv_le_self d hc
    omega
  · have e : Int.tdiv c d = -(Int.tdiv (-c) d) := by rw [← Int.neg_tdiv, Int.neg_neg]
    rw [e, Int.tdiv_eq_ediv_of_nonneg (by omega)]
    have h2 : 0 ≤ (-c) / d := Int.ediv_nonneg (by omega) (Int.le_of_lt hd)
    have h3 : (-c) / d ≤ -c := Int.ediv_le_self d (by omega)
    omega
/-- A raw arc is of whole numbers of 64 bits. -/
def Wfc (x : S50) : Prop := (Lit.int .i64 x.f0).wf = true ∧ (Lit.int .i64 x.f1).wf = true ∧ (Lit.int .i64 x.f2).wf = true
def mkArc (n : Int) (x : S50) : S34 := ⟨1 + pk x.f0 n, 1 + pk x.f1 n, if pk (Int.tdiv x.f2 21) 9 = 0 then pk x.f2 1000000 else pk x.f2 21⟩
theorem mkArc_good {n : Int} (hn : 0 < n) (x : S50) : GoodArc n (mkArc n x) ∧ (mkArc n x).f2 < 1000000 := by
  have h0 := pk_range (c := x.f0) hn
  have h1 := pk_range (c := x.f1) hn
  have h2 := pk_range (c := x.f2) (n := 1000000) (by omega)
  have h3 := pk_range (c := x.f2) (n := 21) (by omega)
  simp only [GoodArc, mkArc]
  split <;> exact ⟨⟨by omega, by omega, by omega, by omega, by omega⟩, by omega⟩
theorem made_loop {l : List S50} (hw : ∀ x ∈ l, Wfc x) {n s t : Int} (h2 : 2 ≤ n) (h9 : n ≤ 9) (d : Nat) : ∀ (i : Nat), i + d = min l.length 24 →
    Ev (fun k => racewaylaw3_made.l0 k l (i : Int) n s t ((l.take i).map (mkArc n))) (n, s, t, (l.take 24).map (mkArc n)) := by
  induction d with
  | zero =>
    intro i hi
    have e : (l.take i).map (mkArc n) = (l.take 24).map (mkArc n) := by
      have e0 : l.take i = l.take 24 := List.take_eq_take_iff.2 (by omega)
      rw [e0]
    by_cases hl : (i : Int) < (l.length : Int)
    · refine Ev.step (fun k => ?_) (Ev.step (f := fun _ => some (n, s, t, (l.take i).map (mkArc n))) (g := fun k => racewaylaw3_made.j1 k l (i : Int) false n s t ((l.take i).map (mkArc n))) (fun k => ?_) (by rw [e]; exact Ev.now _))
      · simp only [racewaylaw3_made.l0]
        rw [if_pos hl, decide_eq_false (by omega)]
      · simp [racewaylaw3_made.j1]
    · refine Ev.step (fun k => ?_) (Ev.step (f := fun _ => some (n, s, t, (l.take i).map (mkArc n))) (g := fun k => racewaylaw3_made.j1 k l (i : Int) false n s t ((l.take i).map (mkArc n))) (fun k => ?_) (by rw [e]; exact Ev.now _))
      · simp only [racewaylaw3_made.l0]
        rw [if_neg hl]
      · simp [racewaylaw3_made.j1]
  | succ d ih =>
    intro i hi
    have hil : i < l.length := by omega
    have hx : rd_T50 l (i : Int) = l[i] := by simp [rd_T50, hil]
    obtain ⟨w0, w1, w2⟩ := hw l[i] (List.getElem_mem hil)
    obtain ⟨l0, u0⟩ := wf_bounds w0
    obtain ⟨l1, u1⟩ := wf_bounds w1
    obtain ⟨l2, u2⟩ := wf_bounds w2
    obtain ⟨l3, u3⟩ := tdiv_bounds l2 u2 (d := 21) (by omega)
    have p0 := pk_range (c := l[i].f0) (n := n) (by omega)
    have p1 := pk_range (c := l[i].f1) (n := n) (by omega)
    have et : (l.take (i + 1)).map (mkArc n) = (l.take i).map (mkArc n) ++ [mkArc n l[i]] := by
      rw [List.take_succ_eq_append_getElem hil, List.map_append]; rfl
    refine Ev.step (f := fun k => racewaylaw3_made.j1 k l (i : Int) true n s t ((l.take i).map (mkArc n))) (fun k => ?_) (Ev.step (f := fun k => racewaylaw3_made.l0 k l ((i + 1 : Nat) : Int) n s t ((l.take (i + 1)).map (mkArc n))) (fun k => ?_) (ih (i + 1) (by omega)))
    · simp only [racewaylaw3_made.l0]
      rw [if_pos (by omega), decide_eq_true (by omega)]
    · simp only [racewaylaw3_made.j1, if_true]
      rw [if_pos (by omega), if_pos (by omega), hx, pick_eq l2 u2 (by omega)]
      simp only [Option.bind_some]
      rw [wrap_id l3 u3, pick_eq l3 u3 (by omega)]
      simp only [Option.bind_some]
      rw [pick_eq l2 u2 (by omega), pick_eq l0 u0 (by omega), pick_eq l1 u1 (by omega)]
      simp only [Option.bind_some]
      rw [wrap_id (by omega) (by omega), wrap_id (by omega) (by omega), wrap_id (by omega) (by omega), et]
      have hlm : ((l.take i).map (mkArc n)).length < 5864062014805 := by rw [List.length_map, List.length_take]; omega
      by_cases hz : pk (Int.tdiv l[i].f2 21) 9 = 0
      · rw [if_pos hz, if_pos hlm]
        simp only [mkArc, if_pos hz]
        rfl
      · rw [if_neg hz, if_pos hlm]
        simp only [mkArc, if_neg hz]
        rfl
/-- What is made of raw numbers. -/
theorem made_ev {a0 a1 : Int} {l : List S50} (w0 : (Lit.int .i64 a0).wf = true) (w1 : (Lit.int .i64 a1).wf = true) (hw : ∀ x ∈ l, Wfc x) :
    ∃ n s t arcs, Ev (fun k => racewaylaw3_made.f k a0 a1 l) (n, s, t, arcs) ∧ 2 ≤ n ∧ n ≤ 9 ∧ Right n s t arcs ∧ arcs.length ≤ 24 ∧ arcs.length = min l.length 24 ∧ (∀ a ∈ arcs, a.f2 < 1000000) := by
  obtain ⟨l0, u0⟩ := wf_bounds w0
  obtain ⟨l1, u1⟩ := wf_bounds w1
  obtain ⟨l2, u2⟩ := tdiv_bounds l1 u1 (d := 16) (by omega)
  have p0 := pk_range (c := a0) (n := 8) (by omega)
  obtain ⟨n, hn⟩ : ∃ n, 2 + pk a0 8 = n := ⟨_, rfl⟩
  have p1 := pk_range (c := a1) (n := n) (by omega)
  have p2 := pk_range (c := Int.tdiv a1 16) (n := n - 1) (by omega)
  obtain ⟨s, hs⟩ : ∃ s, 1 + pk a1 n = s := ⟨_, rfl⟩
  obtain ⟨q, hq⟩ : ∃ q, pk (Int.tdiv a1 16) (n - 1) = q := ⟨_, rfl⟩
  obtain ⟨t, ht⟩ : ∃ t, 1 + Int.tmod (s + q) n = t := ⟨_, rfl⟩
  have b0 : 0 ≤ Int.tmod (s + q) n := Int.tmod_nonneg _ (by omega)
  have b1 : Int.tmod (s + q) n < n := Int.tmod_lt_of_pos _ (by omega)
  have hne : s ≠ t := by
    have e : Int.tmod (s + q) n = (s + q) % n := Int.tmod_eq_emod_of_nonneg (by omega)
    rw [hq] at p2
    by_cases hc : s + q < n
    · rw [Int.emod_eq_of_lt (by omega) hc] at e; omega
    · have e2 : (s + q) % n = (s + q - n) % n := by rw [Int.sub_emod_right]
      rw [e2, Int.emod_eq_of_lt (by omega) (by omega)] at e; omega
  have hlen : ((l.take 24).map (mkArc n)).length = min l.length 24 := by simp; omega
  have hgood : ∀ a ∈ (l.take 24).map (mkArc n), GoodArc n a ∧ a.f2 < 1000000 := by
    intro a ha
    obtain ⟨x, _, rfl⟩ := List.mem_map.1 ha
    exact mkArc_good (by omega) x
  have hsum : ∀ m : List S34, (∀ a ∈ m, GoodArc n a ∧ a.f2 < 1000000) → sumCap m ≤ 1000000 * m.length := by
    intro m
    induction m with
    | nil => intro _; simp [sumCap]
    | cons a r ih =>
      intro h
      have h1 := ih (fun x hx => h x (List.mem_cons_of_mem _ hx))
      have h2 := (h a List.mem_cons_self).2
      simp only [sumCap, List.length_cons]; omega
  have hs2 := hsum _ hgood
  refine ⟨n, s, t, (l.take 24).map (mkArc n), ?_, by omega, by omega, ⟨by omega, by omega, by omega, by omega, by omega, by omega, hne, by omega, fun a ha => (hgood a ha).1, by omega⟩, by omega, hlen, fun a ha => (hgood a ha).2⟩
  refine Ev.congr (f := fun k => racewaylaw3_made.l0 k l 0 n s t []) (fun k => ?_) ?_
  · unfold racewaylaw3_made.f
    rw [pick_eq l0 u0 (by omega)]
    simp only [Option.bind_some]
    rw [wrap_id (x := 2 + pk a0 8) (by omega) (by omega), hn, pick_eq l1 u1 (by omega)]
    simp only [Option.bind_some]
    rw [wrap_id (x := n - 1) (by omega) (by omega), wrap_id l2 u2, pick_eq l2 u2 (by omega)]
    simp only [Option.bind_some]
    rw [if_neg (by omega), wrap_id (x := 1 + pk a1 n) (by omega) (by omega), hs, hq, wrap_id (x := s + q) (by omega) (by omega), wrap_id (x := 1 + Int.tmod (s + q) n) (by omega) (by omega), ht]
  · have := made_loop hw (n := n) (s := s) (t := t) (by omega) (by omega) (min l.length 24) 0 (by omega)
    simpa using this
/-- Amounts within the capacities. -/
def Within : List S34 → List Int → Prop
  | [], [] => True
  | a :: l, x :: f => 0 ≤ x ∧ x ≤ a.f2 ∧ Within l f
  | _, _ => False
/-- What comes in to a node, without what goes out. -/
def exc : List S34 → List Int → Int → Int
  | a :: l, x :: f, v => (if a.f1 = v then x else 0) - (if a.f0 = v then x else 0) + exc l f v
  | _, _, _ => 0
def sumL : List Int → Int
  | [] => 0
  | x :: f => x + sumL f
theorem Within.len : ∀ {l : List S34} {f : List Int}, Within l f → f.length = l.length
  | [], [], _ => rfl
  | _ :: _, _ :: _, h => by simp [Within.len h.2.2]
  | [], _ :: _, h => h.elim
  | _ :: _, [], h => h.elim
theorem rd_get {f : List Int} {i : Nat} (h : i < f.length) : rd f (i : Int) = f[i] := by simp [rd, h]
theorem Within.sum : ∀ {l : List S34} {f : List Int}, Within l f → 0 ≤ sumL f ∧ sumL f ≤ sumCap l
  | [], [], _ => ⟨Int.le_refl _, Int.le_refl _⟩
  | a :: l, x :: f, h => by
    have := Within.sum h.2.2
    have h1 := h.1
    have h2 := h.2.1
    simp only [sumL, sumCap]; omega
  | [], _ :: _, h => h.elim
  | _ :: _, [], h => h.elim
theorem Within.drop : ∀ {l : List S34} {f : List Int}, Within l f → ∀ i, Within (l.drop i) (f.drop i)
  | l, f, h, 0 => by simpa using h
  | [], [], _, _ + 1 => trivial
  | _ :: _, _ :: _, h, i + 1 => by simpa using Within.drop h.2.2 i
  | [], _ :: _, h, _ + 1 => h.elim
  | _ :: _, [], h, _ + 1 => h.elim
theorem Within.zeros : ∀ {l : List S34}, (∀ a ∈ l, 0 ≤ a.f2) → Within l (List.replicate l.length 0)
  | [], _ => trivial
  | a :: l, h => ⟨Int.le_refl _, h a List.mem_cons_self, Within.zeros (fun x hx => h x (List.mem_cons_of_mem _ hx))⟩
theorem exc_zeros : ∀ (l : List S34) (n : Nat) (v : Int), exc l (List.replicate n 0) v = 0
  | [], _, _ => by simp [exc]
  | _ :: _, 0, _ => by simp [exc]
  | a :: l, n + 1, v => by
    simp only [List.replicate_succ, exc, exc_zeros l n v]
    split <;> split <;> rfl
/-- A flow. -/
structure IsFlow (n s t : Int) (l : List S34) (f : List Int) : Prop where
  within : Within l f
  cons : ∀ v, 1 ≤ v → v ≤ n → v ≠ s → v ≠ t → exc l f v = 0
theorem IsFlow.zeros {n s t : Int} {l : List S34} (h : ∀ a ∈ l, GoodArc n a) : IsFlow n s t l (List.replicate l.length 0) :=
  ⟨Within.zeros (fun a ha => (h a ha).2.2.2.2), fun v _ _ _ _ => exc_zeros _ _ _⟩
/-- The sum over the nodes 1 to n. -/
def sumTo (g : Int → Int) : Nat → Int
  | 0 => 0
  | n + 1 => sumTo g n + g ((n : Int) + 1)
theorem sumTo_add (g h : Int → Int) (n : Nat) : sumTo (fun v => g v + h v) n = sumTo g n + sumTo h n := by
  induction n with
  | zero => rfl
  | succ n ih => simp only [sumTo, ih]; omega
theorem sumTo_ext {g h : Int → Int} : ∀ {n : Nat}, (∀ v, 1 ≤ v → v ≤ (n : Int) → g v = h v) → sumTo g n = sumTo h n
  | 0, _ => rfl
  | n + 1, e => by
    simp only [sumTo]
    rw [sumTo_ext (n := n) (fun v h1 h2 => e v h1 (by omega)), e ((n : Int) + 1) (by omega) (by omega)]
theorem sumTo_one (u x : Int) : ∀ {n : Nat}, 1 ≤ u → u ≤ (n : Int) → sumTo (fun v => if u = v then x else 0) n = x
  | 0, h1, h2 => by omega
  | n + 1, h1, h2 => by
    simp only [sumTo]
    by_cases hu : u = (n : Int) + 1
    · have e : sumTo (fun v => if u = v then x else 0) n = sumTo (fun _ => 0) n := sumTo_ext (fun v _ hv => if_neg (by omega))
      have z : ∀ m, sumTo (fun _ => 0) m = 0 := by intro m; induction m with
        | zero => rfl
        | succ m ih => simp only [sumTo, ih]; omega
      rw [e, z, if_pos hu]; omega
    · rw [sumTo_one u x h1 (by omega), if_neg hu]; omega
theorem sumTo_zero (n : Nat) : sumTo (fun _ => 0) n = 0 := by
  induction n with
  | zero => rfl
  | succ m ih => simp only [sumTo, ih]; omega
theorem arcsOf_len {p : S34 → Int} {v : Int} : ∀ (l : List S34) (i : Nat), (arcsOf p v l i).length ≤ l.length
  | [], i => by simp [arcsOf]
  | b :: l, i => by
    have ih := arcsOf_len (p := p) (v := v) l (i + 1)
    simp only [arcsOf]
    split <;> simp <;> omega
theorem out_eq {n s t v : Int} {l : List S34} (h : l.length ≤ 3001) : net_Out.f n s t l v = some (arcsOf (·.f0) v l 0) := by unfold net_Out.f; rw [if_pos (by omega)]
theorem in_eq {n s t v : Int} {l : List S34} (h : l.length ≤ 3001) : net_In.f n s t l v = some (arcsOf (·.f1) v l 0) := by unfold net_In.f; rw [if_pos (by omega)]
theorem eqArcs_self : ∀ l : List S34, eqArcs l l = true
  | [] => rfl
  | a :: l => by simp [eqArcs, eqArcs_self l]
theorem eqArcs_eq : ∀ {l m : List S34}, eqArcs l m = true → l = m
  | [], [], _ => rfl
  | [], _ :: _, h => by simp [eqArcs] at h
  | _ :: _, [], h => by simp [eqArcs] at h
  | ⟨x0, x1, x2⟩ :: l, ⟨y0, y1, y2⟩ :: m, h => by
    simp only [eqArcs, Bool.and_eq_true, beq_iff_eq] at h
    obtain ⟨⟨rfl, rfl, rfl⟩, h⟩ := h
    rw [eqArcs_eq h]
theorem same_self (n s t : Int) (l : List S34) : net_Same.f n s t l n s t l = some true := by simp [net_Same.f, eqArcs_self]
theorem same_not {n s t n' s' t' : Int} {l m : List S34} (h : n = n' → s = s' → t = t' → l = m → False) : net_Same.f n s t l n' s' t' m = some false := by
  unfold net_Same.f
  by_cases c : n = n' ∧ s = s' ∧ t = t'
  · rw [decide_eq_true c, Bool.true_and]
    cases e : eqArcs l m with
    | false => rfl
    | true => exact (h c.1 c.2.1 c.2.2 (eqArcs_eq e)).elim
  · rw [decide_eq_false c, Bool.false_and]
theorem shown_true : racewaylaw3_shown.f = some true := by
  unfold racewaylaw3_shown.f
  simp [net_Check.f, chkArcs, net_Same.f, eqArcs]
end Go.Proofs.Ytlkpapkcgafgeaa.Pure
