/- Plain lists and numbers, for the law PlainBlocks: no program and no memory. -/
-- slimm
import Derived.Test.YtdiaedecnfbgdaaPPlainBlocksx0
import Derived.Test.YtdiaedecnfbgdaaPPlainBlocksx1
import Derived.Test.YtdiaedecnfbgdaaPPlainBlocksx3
import Derived.Test.YtdiaedecnfbgdaaPPlainBlocksx4
import Derived.Test.YtdiaedecnfbgdaaPPlainBlocksx5
import Derived.Test.YtdiaedecnfbgdaaPPlainBlocksx6
import Derived.Test.YtdiaedecnfbgdaaPPlainBlocksx7
import Derived.Test.YtdiaedecnfbgdaaPPlainBlocksx8
import Derived.Test.YtdiaedecnfbgdaaPPlainBlocksx9
import Derived.Test.YtdiaedecnfbgdaaPPlainBlocksx10
import Derived.Test.YtdiaedecnfbgdaaPPlainBlocksx11
import Derived.Test.YtdiaedecnfbgdaaPPlainBlocksx13
import Derived.Test.YtdiaedecnfbgdaaPPlainBlocksx17
import Derived.Test.YtdiaedecnfbgdaaPPlainBlocksx18
import Derived.Test.YtdiaedecnfbgdaaPPlainBlocksx19
import Derived.Test.YtdiaedecnfbgdaaPPlainBlocksx20
import Derived.Test.YtdiaedecnfbgdaaPPlainBlocksx21
import Derived.Test.YtdiaedecnfbgdaaPPlainBlocksx22
import Derived.Test.YtdiaedecnfbgdaaPPlainBlocksx23
import Derived.Test.YtdiaedecnfbgdaaPPlainBlocksx24
import Derived.Test.YtdiaedecnfbgdaaPPlainBlocksx25
import Derived.Test.YtdiaedecnfbgdaaPPlainBlocksx26
import Derived.Test.YtdiaedecnfbgdaaPPlainBlocksx28
import Derived.Test.YtdiaedecnfbgdaaPPlainBlocksx29
import Derived.Lib.RabinKarpLaws
set_option linter.unusedVariables false
namespace Go.Proofs.Ytdiaedecnfbgdaa.Pure
open Go.RowKit Go.Proofs.Ytdiaedecnfbgdaa.PPlainBlocks Go.Proofs.YtdiaedecnfbgdaaW.PrintWords Go.Proofs.YtdiaedecnfbgdaaW.PrintLast
theorem wrap_id {x : Int} (h0 : -9223372036854775808 ≤ x) (h1 : x ≤ 9223372036854775807) : wrap64 x = x := by unfold wrap64; omega
def GoodArc (n : Int) (a : S30) : Prop := 1 ≤ a.f0 ∧ a.f0 ≤ n ∧ 1 ≤ a.f1 ∧ a.f1 ≤ n ∧ 0 ≤ a.f2
def sumCap : List S30 → Int
 | [] => 0
 | a :: t => a.f2 + sumCap t
theorem sumCap_nonneg {n : Int} {l : List S30} (h : ∀ a ∈ l, GoodArc n a) : 0 ≤ sumCap l := by
 induction l with
 | nil => exact Int.le_refl 0
 | cons a t ih =>
  have h1 := ih (fun x hx => h x (List.mem_cons_of_mem _ hx))
  have h2 := (h a List.mem_cons_self).2.2.2.2
  simp only [sumCap]; omega
theorem chk_app {n : Int} : ∀ {l m : List S30} {s : Int}, (∀ a ∈ l, GoodArc n a) → 0 ≤ s → s + sumCap l ≤ 4611686018427387903 → chkArcs n (l ++ m) s = chkArcs n m (s + sumCap l)
 | [], m, s, _, _, _ => by simp [sumCap]
 | a :: t, m, s, h, hs, hM => by
  obtain ⟨g0, g1, g2, g3, g4⟩ := h a List.mem_cons_self
  have ht : ∀ x ∈ t, GoodArc n x := fun x hx => h x (List.mem_cons_of_mem _ hx)
  have hn := sumCap_nonneg ht
  simp only [sumCap] at hM
  simp only [List.cons_append, chkArcs]
  rw [if_pos ⟨by omega, by omega⟩, if_pos ⟨g0, g1, g2, g3⟩, if_neg (by omega), if_neg (by omega), chk_app ht (by omega) (by omega)]
  simp only [sumCap]
  rw [Int.add_assoc]
theorem chk_ok {n : Int} {l : List S30} {s : Int} (h : ∀ a ∈ l, GoodArc n a) (hs : 0 ≤ s) (hM : s + sumCap l ≤ 4611686018427387903) : chkArcs n l s = some 0 := by
 have := chk_app (m := []) h hs hM
 rw [List.append_nil] at this
 rw [this, chkArcs]
structure Right (n s t : Int) (l : List S30) : Prop where
 n2 : 2 ≤ n
 n500 : n ≤ 500
 s1 : 1 ≤ s
 sn : s ≤ n
 t1 : 1 ≤ t
 tn : t ≤ n
 ne : s ≠ t
 len : l.length ≤ 2000
 arcs : ∀ a ∈ l, GoodArc n a
 sum : sumCap l ≤ 4611686018427387903
theorem Right.check {n s t : Int} {l : List S30} (h : Right n s t l) : net_Check.f n s t l = some 0 := by
 unfold net_Check.f
 have h1 := h.n2
 have h2 := h.n500
 have h3 := h.s1
 have h4 := h.sn
 have h5 := h.t1
 have h6 := h.tn
 have h8 := h.len
 rw [if_neg (by omega), if_neg (fun hc => hc ⟨h3, h4, h5, h6⟩), if_neg h.ne, if_neg (by omega)]
 exact chk_ok h.arcs (Int.le_refl 0) (by have := h.sum; omega)
def pk (c n : Int) : Int := if c < 0 then Int.tmod (-(c + 1)) n else Int.tmod c n
theorem pk_range {c n : Int} (hn : 0 < n) : 0 ≤ pk c n ∧ pk c n < n := by
 unfold pk
 split
 ·exact ⟨Int.tmod_nonneg _ (by omega), Int.tmod_lt_of_pos _ hn⟩
 ·exact ⟨Int.tmod_nonneg _ (by omega), Int.tmod_lt_of_pos _ hn⟩
theorem wf_bounds {c : Int} (h : (Lit.int .i64 c).wf = true) : -9223372036854775808 ≤ c ∧ c ≤ 9223372036854775807 := by
 simp [Lit.wf] at h
 obtain ⟨h1, h2⟩ := h
 have e : IntKind.i64.min = -9223372036854775808 := by decide
 rw [e] at h1
 exact ⟨h1, h2⟩
theorem pick_eq {c n : Int} (h0 : -9223372036854775808 ≤ c) (h1 : c ≤ 9223372036854775807) (hn : 0 < n) : racewaylaw8_pick.f c n = some (pk c n) := by
 unfold racewaylaw8_pick.f pk
 by_cases hc : c < 0
 ·have e1 : wrap64 (c + 1) = c + 1 := by unfold wrap64; omega
  have e2 : wrap64 (-(c + 1)) = -(c + 1) := by unfold wrap64; omega
  rw [if_pos hc, if_pos hc, if_neg (by omega), e1, e2]
 ·rw [if_neg hc, if_neg hc, if_neg (by omega)]
theorem tdiv_bounds {c d : Int} (h0 : -9223372036854775808 ≤ c) (h1 : c ≤ 9223372036854775807) (hd : 0 < d) : -9223372036854775808 ≤ Int.tdiv c d ∧ Int.tdiv c d ≤ 9223372036854775807 := by
 by_cases hc : 0 ≤ c
 ·rw [Int.tdiv_eq_ediv_of_nonneg hc]
  have h2 := Int.ediv_nonneg hc (Int.le_of_lt hd)
  have h3 : c / d ≤ c := Int.ediv_le_self d hc
  omega
 ·have e : Int.tdiv c d = -(Int.tdiv (-c) d) := by rw [← Int.neg_tdiv, Int.neg_neg]
  rw [e, Int.tdiv_eq_ediv_of_nonneg (by omega)]
  have h2 : 0 ≤ (-c) / d := Int.ediv_nonneg (by omega) (Int.le_of_lt hd)
  have h3 : (-c) / d ≤ -c := Int.ediv_le_self d (by omega)
  omega
def Wfc (x : S91) : Prop := (Lit.int .i64 x.f0).wf = true ∧ (Lit.int .i64 x.f1).wf = true ∧ (Lit.int .i64 x.f2).wf = true
def mkArc (n : Int) (x : S91) : S30 := ⟨1 + pk x.f0 n, 1 + pk x.f1 n, if pk (Int.tdiv x.f2 21) 9 = 0 then pk x.f2 1000000 else pk x.f2 21⟩
theorem mkArc_good {n : Int} (hn : 0 < n) (x : S91) : GoodArc n (mkArc n x) ∧ (mkArc n x).f2 < 1000000 := by
 have h0 := pk_range (c := x.f0) hn
 have h1 := pk_range (c := x.f1) hn
 have h2 := pk_range (c := x.f2) (n := 1000000) (by omega)
 have h3 := pk_range (c := x.f2) (n := 21) (by omega)
 simp only [GoodArc, mkArc]
 split <;> exact ⟨⟨by omega, by omega, by omega, by omega, by omega⟩, by omega⟩
theorem made_loop {l : List S91} (hw : ∀ x ∈ l, Wfc x) {n s t : Int} (h2 : 2 ≤ n) (h9 : n ≤ 9) (d : Nat) : ∀ (i : Nat), i + d = min l.length 24 →
  Ev (fun k => racewaylaw8_made.l0 k l (i : Int) n s t ((l.take i).map (mkArc n))) (n, s, t, (l.take 24).map (mkArc n)) := by
 induction d with
 | zero =>
  intro i hi
  have e : (l.take i).map (mkArc n) = (l.take 24).map (mkArc n) := by
   have e0 : l.take i = l.take 24 := List.take_eq_take_iff.2 (by omega)
   rw [e0]
  by_cases hl : (i : Int) < (l.length : Int)
  ·refine Ev.step (fun k => ?_) (Ev.step (f := fun _ => some (n, s, t, (l.take i).map (mkArc n))) (g := fun k => racewaylaw8_made.j1 k l (i : Int) false n s t ((l.take i).map (mkArc n))) (fun k => ?_) (by rw [e]; exact Ev.now _))
   ·simp only [racewaylaw8_made.l0]
    rw [if_pos hl, decide_eq_false (by omega)]
   ·simp [racewaylaw8_made.j1]
  ·refine Ev.step (fun k => ?_) (Ev.step (f := fun _ => some (n, s, t, (l.take i).map (mkArc n))) (g := fun k => racewaylaw8_made.j1 k l (i : Int) false n s t ((l.take i).map (mkArc n))) (fun k => ?_) (by rw [e]; exact Ev.now _))
   ·simp only [racewaylaw8_made.l0]
    rw [if_neg hl]
   ·simp [racewaylaw8_made.j1]
 | succ d ih =>
  intro i hi
  have hil : i < l.length := by omega
  have hx : rd_T91 l (i : Int) = l[i] := by simp [rd_T91, hil]
  obtain ⟨w0, w1, w2⟩ := hw l[i] (List.getElem_mem hil)
  obtain ⟨l0, u0⟩ := wf_bounds w0
  obtain ⟨l1, u1⟩ := wf_bounds w1
  obtain ⟨l2, u2⟩ := wf_bounds w2
  obtain ⟨l3, u3⟩ := tdiv_bounds l2 u2 (d := 21) (by omega)
  have p0 := pk_range (c := l[i].f0) (n := n) (by omega)
  have p1 := pk_range (c := l[i].f1) (n := n) (by omega)
  have et : (l.take (i + 1)).map (mkArc n) = (l.take i).map (mkArc n) ++ [mkArc n l[i]] := by
   rw [List.take_succ_eq_append_getElem hil, List.map_append]; rfl
  refine Ev.step (f := fun k => racewaylaw8_made.j1 k l (i : Int) true n s t ((l.take i).map (mkArc n))) (fun k => ?_) (Ev.step (f := fun k => racewaylaw8_made.l0 k l ((i + 1 : Nat) : Int) n s t ((l.take (i + 1)).map (mkArc n))) (fun k => ?_) (ih (i + 1) (by omega)))
  ·simp only [racewaylaw8_made.l0]
   rw [if_pos (by omega), decide_eq_true (by omega)]
  ·simp only [racewaylaw8_made.j1, if_true]
   rw [if_pos (by omega), if_pos (by omega), hx, pick_eq l2 u2 (by omega)]
   simp only [Option.bind_some]
   rw [wrap_id l3 u3, pick_eq l3 u3 (by omega)]
   simp only [Option.bind_some]
   rw [pick_eq l2 u2 (by omega), pick_eq l0 u0 (by omega), pick_eq l1 u1 (by omega)]
   simp only [Option.bind_some]
   rw [wrap_id (by omega) (by omega), wrap_id (by omega) (by omega), wrap_id (by omega) (by omega), et]
   have hlm : ((l.take i).map (mkArc n)).length < 5864062014805 := by rw [List.length_map, List.length_take]; omega
   by_cases hz : pk (Int.tdiv l[i].f2 21) 9 = 0
   ·rw [if_pos hz, if_pos hlm]
    simp only [mkArc, if_pos hz]
    rfl
   ·rw [if_neg hz, if_pos hlm]
    simp only [mkArc, if_neg hz]
    rfl
theorem made_ev {a0 a1 : Int} {l : List S91} (w0 : (Lit.int .i64 a0).wf = true) (w1 : (Lit.int .i64 a1).wf = true) (hw : ∀ x ∈ l, Wfc x) :
  ∃ n s t arcs, Ev (fun k => racewaylaw8_made.f k a0 a1 l) (n, s, t, arcs) ∧ 2 ≤ n ∧ n ≤ 9 ∧ Right n s t arcs ∧ arcs.length ≤ 24 ∧ arcs.length = min l.length 24 ∧ (∀ a ∈ arcs, a.f2 < 1000000) := by
 obtain ⟨l0, u0⟩ := wf_bounds w0
 obtain ⟨l1, u1⟩ := wf_bounds w1
 obtain ⟨l2, u2⟩ := tdiv_bounds l1 u1 (d := 16) (by omega)
 have p0 := pk_range (c := a0) (n := 8) (by omega)
 obtain ⟨n, hn⟩ : ∃ n, 2 + pk a0 8 = n := ⟨_, rfl⟩
 have p1 := pk_range (c := a1) (n := n) (by omega)
 have p2 := pk_range (c := Int.tdiv a1 16) (n := n - 1) (by omega)
 obtain ⟨s, hs⟩ : ∃ s, 1 + pk a1 n = s := ⟨_, rfl⟩
 obtain ⟨q, hq⟩ : ∃ q, pk (Int.tdiv a1 16) (n - 1) = q := ⟨_, rfl⟩
 obtain ⟨t, ht⟩ : ∃ t, 1 + Int.tmod (s + q) n = t := ⟨_, rfl⟩
 have b0 : 0 ≤ Int.tmod (s + q) n := Int.tmod_nonneg _ (by omega)
 have b1 : Int.tmod (s + q) n < n := Int.tmod_lt_of_pos _ (by omega)
 have hne : s ≠ t := by
  have e : Int.tmod (s + q) n = (s + q) % n := Int.tmod_eq_emod_of_nonneg (by omega)
  rw [hq] at p2
  by_cases hc : s + q < n
  ·rw [Int.emod_eq_of_lt (by omega) hc] at e; omega
  ·have e2 : (s + q) % n = (s + q - n) % n := by rw [Int.sub_emod_right]
   rw [e2, Int.emod_eq_of_lt (by omega) (by omega)] at e; omega
 have hlen : ((l.take 24).map (mkArc n)).length = min l.length 24 := by simp; omega
 have hgood : ∀ a ∈ (l.take 24).map (mkArc n), GoodArc n a ∧ a.f2 < 1000000 := by
  intro a ha
  obtain ⟨x, _, rfl⟩ := List.mem_map.1 ha
  exact mkArc_good (by omega) x
 have hsum : ∀ m : List S30, (∀ a ∈ m, GoodArc n a ∧ a.f2 < 1000000) → sumCap m ≤ 1000000 * m.length := by
  intro m
  induction m with
  | nil => intro _; simp [sumCap]
  | cons a r ih =>
   intro h
   have h1 := ih (fun x hx => h x (List.mem_cons_of_mem _ hx))
   have h2 := (h a List.mem_cons_self).2
   simp only [sumCap, List.length_cons]; omega
 have hs2 := hsum _ hgood
 refine ⟨n, s, t, (l.take 24).map (mkArc n), ?_, by omega, by omega, ⟨by omega, by omega, by omega, by omega, by omega, by omega, hne, by omega, fun a ha => (hgood a ha).1, by omega⟩, by omega, hlen, fun a ha => (hgood a ha).2⟩
 refine Ev.congr (f := fun k => racewaylaw8_made.l0 k l 0 n s t []) (fun k => ?_) ?_
 ·unfold racewaylaw8_made.f
  rw [pick_eq l0 u0 (by omega)]
  simp only [Option.bind_some]
  rw [wrap_id (x := 2 + pk a0 8) (by omega) (by omega), hn, pick_eq l1 u1 (by omega)]
  simp only [Option.bind_some]
  rw [wrap_id (x := n - 1) (by omega) (by omega), wrap_id l2 u2, pick_eq l2 u2 (by omega)]
  simp only [Option.bind_some]
  rw [if_neg (by omega), wrap_id (x := 1 + pk a1 n) (by omega) (by omega), hs, hq, wrap_id (x := s + q) (by omega) (by omega), wrap_id (x := 1 + Int.tmod (s + q) n) (by omega) (by omega), ht]
 ·have := made_loop hw (n := n) (s := s) (t := t) (by omega) (by omega) (min l.length 24) 0 (by omega)
  simpa using this
def Within : List S30 → List Int → Prop
 | [], [] => True
 | a :: l, x :: f => 0 ≤ x ∧ x ≤ a.f2 ∧ Within l f
 | _, _ => False
def exc : List S30 → List Int → Int → Int
 | a :: l, x :: f, v => (if a.f1 = v then x else 0) - (if a.f0 = v then x else 0) + exc l f v
 | _, _, _ => 0
theorem exc_nil (f : List Int) (v : Int) : exc [] f v = 0 := by cases f <;> rfl
def sumL : List Int → Int
 | [] => 0
 | x :: f => x + sumL f
theorem Within.len : ∀ {l : List S30} {f : List Int}, Within l f → f.length = l.length
 | [], [], _ => rfl
 | _ :: _, _ :: _, h => by simp [Within.len h.2.2]
 | [], _ :: _, h => h.elim
 | _ :: _, [], h => h.elim
theorem Within.get : ∀ {l : List S30} {f : List Int}, Within l f → ∀ i (h : i < l.length) (h' : i < f.length), 0 ≤ f[i] ∧ f[i] ≤ (l[i]).f2
 | _ :: _, _ :: _, h, 0, _, _ => ⟨h.1, h.2.1⟩
 | _ :: l, _ :: f, h, i + 1, h1, h2 => by
  simp only [List.getElem_cons_succ]
  exact Within.get h.2.2 i (by simpa using h1) (by simpa using h2)
 | [], [], _, i, h1, _ => absurd h1 (by simp)
theorem Within.of : ∀ {l : List S30} {f : List Int}, f.length = l.length → (∀ i (h : i < l.length) (h' : i < f.length), 0 ≤ f[i] ∧ f[i] ≤ (l[i]).f2) → Within l f
 | [], [], _, _ => trivial
 | a :: l, x :: f, hl, h => by
  have h0 := h 0 (by simp) (by simp)
  exact ⟨h0.1, h0.2, Within.of (by simpa using hl) (fun i h1 h2 => by have := h (i + 1) (by simpa using h1) (by simpa using h2); simpa using this)⟩
 | [], _ :: _, hl, _ => absurd hl (by simp)
 | _ :: _, [], hl, _ => absurd hl (by simp)
theorem rd_get {f : List Int} {i : Nat} (h : i < f.length) : rd f (i : Int) = f[i] := by simp [rd, h]
theorem rdT_get {l : List S30} {i : Nat} (h : i < l.length) : rd_T30 l (i : Int) = l[i] := by simp [rd_T30, h]
theorem Within.sum : ∀ {l : List S30} {f : List Int}, Within l f → 0 ≤ sumL f ∧ sumL f ≤ sumCap l
 | [], [], _ => ⟨Int.le_refl _, Int.le_refl _⟩
 | a :: l, x :: f, h => by
  have := Within.sum h.2.2
  have h1 := h.1
  have h2 := h.2.1
  simp only [sumL, sumCap]; omega
 | [], _ :: _, h => h.elim
 | _ :: _, [], h => h.elim
theorem Within.nonneg : ∀ {l : List S30} {f : List Int}, Within l f → ∀ x ∈ f, 0 ≤ x
 | [], [], _, x, hx => by cases hx
 | a :: l, y :: f, h, x, hx => by
  rcases List.mem_cons.1 hx with rfl | hx
  ·exact h.1
  ·exact Within.nonneg h.2.2 x hx
 | [], _ :: _, h, _, _ => h.elim
 | _ :: _, [], h, _, _ => h.elim
theorem Within.drop : ∀ {l : List S30} {f : List Int}, Within l f → ∀ i, Within (l.drop i) (f.drop i)
 | l, f, h, 0 => by simpa using h
 | [], [], _, _ + 1 => trivial
 | _ :: _, _ :: _, h, i + 1 => by simpa using Within.drop h.2.2 i
 | [], _ :: _, h, _ + 1 => h.elim
 | _ :: _, [], h, _ + 1 => h.elim
theorem Within.zeros : ∀ {l : List S30}, (∀ a ∈ l, 0 ≤ a.f2) → Within l (List.replicate l.length 0)
 | [], _ => trivial
 | a :: l, h => ⟨Int.le_refl _, h a List.mem_cons_self, Within.zeros (fun x hx => h x (List.mem_cons_of_mem _ hx))⟩
theorem exc_zeros : ∀ (l : List S30) (n : Nat) (v : Int), exc l (List.replicate n 0) v = 0
 | [], _, _ => by simp [exc]
 | _ :: _, 0, _ => by simp [exc]
 | a :: l, n + 1, v => by
  simp only [List.replicate_succ, exc, exc_zeros l n v]
  split <;> split <;> rfl
theorem Within.set : ∀ {l : List S30} {f : List Int}, Within l f → ∀ (i : Nat) (x : Int), 0 ≤ x → (∀ h : i < l.length, x ≤ (l[i]).f2) → Within l (f.set i x)
 | [], [], _, _, _, _, _ => by simp [Within]
 | a :: l, y :: f, h, 0, x, h0, hx => ⟨h0, hx (by simp), h.2.2⟩
 | a :: l, y :: f, h, i + 1, x, h0, hx => ⟨h.1, h.2.1, Within.set h.2.2 i x h0 (fun h' => by have := hx (by simpa using h'); simpa using this)⟩
 | [], _ :: _, h, _, _, _, _ => h.elim
 | _ :: _, [], h, _, _, _, _ => h.elim
theorem exc_set : ∀ {l : List S30} {f : List Int} (i : Nat) (x v : Int) (h : i < l.length) (h' : i < f.length),
  exc l (f.set i x) v = exc l f v + ((if (l[i]).f1 = v then x - f[i] else 0) - (if (l[i]).f0 = v then x - f[i] else 0))
 | [], _, _, _, _, h, _ => absurd h (by simp)
 | _ :: _, [], _, _, _, _, h' => absurd h' (by simp)
 | a :: l, y :: f, 0, x, v, _, _ => by
  simp only [List.set_cons_zero, exc, List.getElem_cons_zero]
  split <;> split <;> omega
 | a :: l, y :: f, i + 1, x, v, h, h' => by
  simp only [List.set_cons_succ, exc, List.getElem_cons_succ]
  rw [exc_set i x v (by simpa using h) (by simpa using h')]
  omega
theorem exc_bound : ∀ {l : List S30} {f : List Int}, (∀ x ∈ f, 0 ≤ x) → ∀ v, -sumL f ≤ exc l f v ∧ exc l f v ≤ sumL f
 | [], f, h, v => by
  have : ∀ g : List Int, (∀ x ∈ g, 0 ≤ x) → 0 ≤ sumL g := by
   intro g
   induction g with
   | nil => intro _; exact Int.le_refl _
   | cons y g ih => intro hg; have := ih (fun x hx => hg x (List.mem_cons_of_mem _ hx)); have := hg y List.mem_cons_self; simp only [sumL]; omega
  have := this f h
  simp only [exc]; omega
 | _ :: _, [], _, v => by simp [exc, sumL]
 | a :: l, x :: f, h, v => by
  have h1 := exc_bound (l := l) (fun y hy => h y (List.mem_cons_of_mem _ hy)) v
  have h2 := h x List.mem_cons_self
  simp only [exc, sumL]
  split <;> split <;> omega
structure IsFlow (n s t : Int) (l : List S30) (f : List Int) : Prop where
 within : Within l f
 cons : ∀ v, 1 ≤ v → v ≤ n → v ≠ s → v ≠ t → exc l f v = 0
theorem IsFlow.zeros {n s t : Int} {l : List S30} (h : ∀ a ∈ l, GoodArc n a) : IsFlow n s t l (List.replicate l.length 0) :=
 ⟨Within.zeros (fun a ha => (h a ha).2.2.2.2), fun v _ _ _ _ => exc_zeros _ _ _⟩
theorem rd_set {xs : List Int} {j u x : Int} (h0 : 0 ≤ j) (h1 : j < (xs.length : Int)) (hu : 0 ≤ u) : rd (xs.set j.toNat x) u = if j = u then x else rd xs u := by
 unfold rd
 rw [List.getD_eq_getElem?_getD, List.getD_eq_getElem?_getD, List.getElem?_set]
 by_cases e : j = u
 ·subst e
  rw [if_pos rfl, if_pos (by omega), if_pos rfl]; rfl
 ·rw [if_neg (by omega), if_neg e]
theorem sumL_drop {f : List Int} {i : Nat} (h : i < f.length) : sumL (f.drop i) = f[i] + sumL (f.drop (i + 1)) := by
 rw [List.drop_eq_getElem_cons h]; rfl
theorem sumL_nonneg : ∀ {g : List Int}, (∀ x ∈ g, 0 ≤ x) → 0 ≤ sumL g
 | [], _ => Int.le_refl _
 | y :: g, h => by
  have h1 := sumL_nonneg (g := g) (fun x hx => h x (List.mem_cons_of_mem _ hx))
  have h2 := h y List.mem_cons_self
  simp only [sumL]; omega
theorem exc_loop {n : Int} {l : List S30} {f : List Int} (hg : ∀ a ∈ l, GoodArc n a) (hf : ∀ x ∈ f, 0 ≤ x) (hlen : f.length = l.length) (hS : sumL f ≤ 4611686018427387903) (hl : l.length ≤ 2000) (d : Nat) :
  ∀ (i : Nat) (out : List Int), i + d = l.length → (out.length : Int) = n + 1 → (∀ v, 0 ≤ v → v ≤ n → -(sumL f - sumL (f.drop i)) ≤ rd out v ∧ rd out v ≤ sumL f - sumL (f.drop i)) →
   ∃ out', Ev (fun k => flow_excesses.l0 k f out l (l.length : Int) (i : Int)) out' ∧ (out'.length : Int) = n + 1 ∧ ∀ v, 0 ≤ v → v ≤ n → rd out' v = rd out v + exc (l.drop i) (f.drop i) v := by
 induction d with
 | zero =>
  intro i out hi ho _
  refine ⟨out, Ev.step (f := fun _ => some out) (fun k => ?_) (Ev.now _), ho, fun v _ _ => ?_⟩
  ·simp only [flow_excesses.l0]
   rw [if_neg (by omega)]
  ·rw [List.drop_of_length_le (show l.length ≤ i by omega), exc_nil]; omega
 | succ d ih =>
  intro i out hi ho hb
  have hil : i < l.length := by omega
  have hif : i < f.length := by omega
  obtain ⟨g0, g1, g2, g3, _⟩ := hg l[i] (List.getElem_mem hil)
  have hx0 := hf f[i] (List.getElem_mem hif)
  have hsd := sumL_drop hif
  have hsn := sumL_nonneg (g := f.drop (i + 1)) (fun x hx => hf x (List.mem_of_mem_drop hx))
  have b0 := hb (l[i]).f0 (by omega) g1
  have e1 : wrap64 (rd out (l[i]).f0 - f[i]) = rd out (l[i]).f0 - f[i] := wrap_id (by omega) (by omega)
  have hr1 : ∀ u, 0 ≤ u → rd (out.set ((l[i]).f0).toNat (rd out (l[i]).f0 - f[i])) u = if (l[i]).f0 = u then rd out (l[i]).f0 - f[i] else rd out u := fun u hu => rd_set (by omega) (by omega) hu
  have b1 := hb (l[i]).f1 (by omega) g3
  have e2 : wrap64 (rd (out.set ((l[i]).f0).toNat (rd out (l[i]).f0 - f[i])) (l[i]).f1 + f[i]) = rd (out.set ((l[i]).f0).toNat (rd out (l[i]).f0 - f[i])) (l[i]).f1 + f[i] := by
   have := hr1 (l[i]).f1 (by omega)
   rw [this]
   split <;> exact wrap_id (by omega) (by omega)
  have hr2 : ∀ u, 0 ≤ u → rd ((out.set ((l[i]).f0).toNat (rd out (l[i]).f0 - f[i])).set ((l[i]).f1).toNat (rd (out.set ((l[i]).f0).toNat (rd out (l[i]).f0 - f[i])) (l[i]).f1 + f[i])) u = rd out u + ((if (l[i]).f1 = u then f[i] else 0) - (if (l[i]).f0 = u then f[i] else 0)) := by
   intro u hu
   rw [rd_set (by omega) (by rw [List.length_set]; omega) hu, hr1 (l[i]).f1 (by omega), hr1 u hu]
   by_cases c1 : (l[i]).f1 = u
   ·by_cases c0 : (l[i]).f0 = u
    ·rw [if_pos c1, if_pos (by omega), if_pos c1, if_pos c0, c0]; omega
    ·rw [if_pos c1, if_neg (by omega), if_pos c1, if_neg c0, c1]; omega
   ·by_cases c0 : (l[i]).f0 = u
    ·rw [if_neg c1, if_pos c0, if_neg c1, if_pos c0, c0]; omega
    ·rw [if_neg c1, if_neg c0, if_neg c1, if_neg c0]; omega
  obtain ⟨Y, hYd⟩ : ∃ Y, ((out.set ((l[i]).f0).toNat (rd out (l[i]).f0 - f[i])).set ((l[i]).f1).toNat (rd (out.set ((l[i]).f0).toNat (rd out (l[i]).f0 - f[i])) (l[i]).f1 + f[i])) = Y := ⟨_, rfl⟩
  rw [hYd] at hr2
  obtain ⟨out', h1, h2, h3⟩ := ih (i + 1) Y (by omega) (by rw [← hYd, List.length_set, List.length_set]; exact ho) (fun v hv0 hv1 => by
   have hbv := hb v hv0 hv1
   have e := hr2 v hv0
   rw [e]
   by_cases c1 : (l[i]).f1 = v
   ·by_cases c0 : (l[i]).f0 = v
    ·rw [if_pos c1, if_pos c0]; omega
    ·rw [if_pos c1, if_neg c0]; omega
   ·by_cases c0 : (l[i]).f0 = v
    ·rw [if_neg c1, if_pos c0]; omega
    ·rw [if_neg c1, if_neg c0]; omega)
  refine ⟨out', Ev.step (fun k => ?_) h1, h2, fun v hv0 hv1 => ?_⟩
  ·simp only [flow_excesses.l0]
   rw [if_pos (by omega), if_pos (by omega), if_pos (by omega), rdT_get hil, rd_get hif, if_pos (by omega), if_pos (by omega), if_pos (by omega), e1]
   simp only [Option.bind_some]
   rw [if_pos (by omega), if_pos (by omega), e2, wrap_id (by omega) (by omega), hYd]
   rfl
  ·rw [h3 v hv0 hv1, hr2 v hv0, List.drop_eq_getElem_cons hil, List.drop_eq_getElem_cons hif]
   simp only [exc]; omega
theorem rd_replicate (m : Nat) (v : Int) : rd (List.replicate m 0) v = 0 := by
 unfold rd
 rw [List.getD_eq_getElem?_getD, List.getElem?_replicate]
 split <;> rfl
theorem excesses_ev {n s t : Int} {l : List S30} {f : List Int} (R : Right n s t l) (W : Within l f) :
  ∃ out, Ev (fun k => flow_excesses.f k n s t l f) out ∧ (out.length : Int) = n + 1 ∧ ∀ v, 0 ≤ v → v ≤ n → rd out v = exc l f v := by
 have h1 := R.n2
 have h2 := R.n500
 have hs := W.sum
 have hR := R.sum
 obtain ⟨out, ho, hl, hv⟩ := exc_loop R.arcs W.nonneg W.len (by omega) R.len l.length 0 (List.replicate (n + 1).toNat 0) (by omega) (by simp; omega) (fun v _ _ => by rw [rd_replicate, List.drop_zero]; omega)
 refine ⟨out, Ev.congr (fun k => ?_) ho, hl, fun v h0 h3 => ?_⟩
 ·unfold flow_excesses.f
  rw [wrap_id (x := n + 1) (by omega) (by omega), if_pos (by omega), if_pos (by omega)]
  rfl
 ·rw [hv v h0 h3, rd_replicate, List.drop_zero, List.drop_zero]; omega
theorem within_loop {n s t : Int} {l : List S30} {f : List Int} (W : Within l f) (hl : l.length ≤ 2000) (d : Nat) : ∀ i : Nat, i + d = f.length → Ev (fun k => flow_within.l0 k f (f.length : Int) (i : Int) n s t l) 0 := by
 have hlen := W.len
 induction d with
 | zero =>
  intro i hi
  refine Ev.step (f := fun _ => some 0) (fun k => ?_) (Ev.now _)
  simp only [flow_within.l0]
  rw [if_neg (by omega)]
 | succ d ih =>
  intro i hi
  have hif : i < f.length := by omega
  have hil : i < l.length := by omega
  have hb := W.get i hil hif
  refine Ev.step (fun k => ?_) (ih (i + 1) (by omega))
  simp only [flow_within.l0]
  rw [if_pos (by omega), if_pos (by omega), if_pos (by omega), rd_get hif, rdT_get hil, if_neg (by omega), if_pos (by omega), if_neg (by omega), wrap_id (by omega) (by omega)]
  rfl
theorem within_yes {n s t : Int} {l : List S30} {f : List Int} (R : Right n s t l) (W : Within l f) : Ev (fun k => flow_within.f k n s t l f) 0 := by
 have hlen := W.len
 refine Ev.congr (fun k => ?_) (within_loop (n := n) (s := s) (t := t) W R.len f.length 0 (by omega))
 unfold flow_within.f
 rw [R.check]
 simp only [Option.bind_some, if_true]
 rw [if_pos (by omega)]
 rfl
theorem check_loop {n s t : Int} {l : List S30} {x : List Int} (hn : n ≤ 500) (hx : (x.length : Int) = n + 1) (d : Nat) : ∀ i : Nat, (i : Int) + d = n → (∀ v, (i : Int) < v → v ≤ n → v ≠ s → v ≠ t → rd x v = 0) →
  Ev (fun k => flow_Check.l0 k x n (i : Int) n s t l) 0 := by
 induction d with
 | zero =>
  intro i hi _
  refine Ev.step (f := fun _ => some 0) (fun k => ?_) (Ev.now _)
  simp only [flow_Check.l0]
  rw [if_neg (by omega)]
 | succ d ih =>
  intro i hi hz
  refine Ev.step (fun k => ?_) (ih (i + 1) (by omega) (fun v h1 h2 h3 h4 => hz v (by omega) h2 h3 h4))
  simp only [flow_Check.l0]
  rw [if_pos (by omega), wrap_id (by omega) (by omega)]
  by_cases c1 : (i : Int) + 1 = s
  ·rw [if_pos c1]; rfl
  ·by_cases c2 : (i : Int) + 1 = t
   ·rw [if_neg c1, if_pos c2]; rfl
   ·rw [if_neg c1, if_neg c2, if_pos (by omega), if_pos (by omega), if_pos (hz _ (by omega) (by omega) c1 c2)]; rfl
theorem check_flow {n s t : Int} {l : List S30} {f : List Int} (R : Right n s t l) (F : IsFlow n s t l f) : Ev (fun k => flow_Check.f k n s t l f) 0 := by
 obtain ⟨x, h1, h2, h3⟩ := excesses_ev R F.within
 have hn := R.n2
 unfold flow_Check.f
 refine Ev.bind (within_yes R F.within) ?_
 simp only [if_true]
 refine Ev.bind h1 ?_
 exact check_loop R.n500 h2 n.toNat 0 (by omega) (fun v hv1 hv2 hv3 hv4 => by rw [h3 v (by omega) hv2]; exact F.cons v (by omega) hv2 hv3 hv4)
theorem rdOf_set {m : List Bool} {j u : Int} {b : Bool} (h0 : 0 ≤ j) (h1 : j < (m.length : Int)) (hu : 0 ≤ u) : rdOf false (m.set j.toNat b) u = if j = u then b else rdOf false m u := by
 unfold rdOf
 rw [List.getD_eq_getElem?_getD, List.getD_eq_getElem?_getD, List.getElem?_set]
 by_cases e : j = u
 ·subst e
  rw [if_pos rfl, if_pos (by omega), if_pos rfl]; rfl
 ·rw [if_neg (by omega), if_neg e]
def cntF : List Bool → Nat
 | [] => 0
 | b :: m => (if b = true then 0 else 1) + cntF m
theorem cntF_set : ∀ {m : List Bool} {i : Nat}, i < m.length → m.getD i false = false → cntF (m.set i true) + 1 = cntF m
 | [], _, h, _ => absurd h (by simp)
 | b :: m, 0, _, h => by
  have hb : b = false := by simpa using h
  subst hb
  simp [cntF]; omega
 | b :: m, i + 1, h, hb => by
  have := cntF_set (m := m) (i := i) (by simpa using h) (by simpa using hb)
  simp only [List.set_cons_succ, cntF]; omega
theorem cntF_replicate (k : Nat) : cntF (List.replicate k false) = k := by
 induction k with
 | zero => rfl
 | succ k ih => simp only [List.replicate_succ, cntF, ih]; simp; omega
def Path (l : List S30) : Int → List Int → Int → Prop
 | u, [], v => u = v
 | u, i :: w, v => (rd_T30 l i).f0 = u ∧ Path l (rd_T30 l i).f1 w v
theorem Path.snoc {l : List S30} : ∀ {w : List Int} {u v i : Int}, Path l u w v → (rd_T30 l i).f0 = v → Path l u (w ++ [i]) (rd_T30 l i).f1
 | [], u, v, i, h, hi => ⟨by rw [hi]; exact h.symm, rfl⟩
 | _ :: w, u, v, i, h, hi => ⟨h.1, Path.snoc h.2 hi⟩
def GoodWalk (l : List S30) (f : List Int) (s t : Int) (w : List Int) : Prop :=
 w = [] ∨ (Path l s w t ∧ w.Nodup ∧ ∀ j ∈ w, 0 ≤ j ∧ j < (l.length : Int) ∧ rd f j < (rd_T30 l j).f2)
def FitOk (l : List S30) (f : List Int) (met : List Bool) (at_ : Int) (F : List Int) : Prop :=
 ∀ j ∈ F, 0 ≤ j ∧ j < (l.length : Int) ∧ (rd_T30 l j).f0 = at_ ∧ rdOf false met (rd_T30 l j).f1 = false ∧ rd f j < (rd_T30 l j).f2
theorem wrap_succ {i : Nat} (h : i ≤ 1000000) : wrap64 ((i : Int) + 1) = ((i + 1 : Nat) : Int) := by rw [wrap_id (by omega) (by omega)]; rfl
theorem fit_run {n s t at_ raw : Int} {l : List S30} {f w : List Int} {met : List Bool} (hg : ∀ a ∈ l, GoodArc n a) (hlen : f.length = l.length) (hl : l.length ≤ 2000) (hm : (met.length : Int) = n + 1) (Q : List Int → Prop)
  (H : ∀ F, FitOk l f met at_ F → F.length ≤ l.length → ∃ r, Ev (fun k => racewaylaw8_walked.l1 k f raw met at_ w F (l.length : Int) n s t l) r ∧ Q r) (d : Nat) :
  ∀ (i : Nat) (F : List Int), i + d = l.length → FitOk l f met at_ F → F.length ≤ i → ∃ r, Ev (fun k => racewaylaw8_walked.l1 k f raw met at_ w F (i : Int) n s t l) r ∧ Q r := by
 induction d with
 | zero =>
  intro i F hi hF hlF
  obtain rfl : i = l.length := by omega
  exact H F hF hlF
 | succ d ih =>
  intro i F hi hF hlF
  have hil : i < l.length := by omega
  have hif : i < f.length := by omega
  obtain ⟨g0, g1, g2, g3, g4⟩ := hg l[i] (List.getElem_mem hil)
  by_cases c0 : (l[i]).f0 = at_
  ·by_cases c1 : rdOf false met (l[i]).f1 = true
   ·obtain ⟨r, hr, hq⟩ := ih (i + 1) F (by omega) hF (by omega)
    refine ⟨r, Ev.step (fun k => ?_) hr, hq⟩
    simp only [racewaylaw8_walked.l1]
    rw [if_pos (by omega), if_pos (by omega), rdT_get hil, if_pos c0, if_pos (by omega), if_pos (by omega), if_pos c1, wrap_succ (by omega)]
   ·by_cases c2 : f[i] < (l[i]).f2
    ·obtain ⟨r, hr, hq⟩ := ih (i + 1) (F ++ [(i : Int)]) (by omega) (fun j hj => by
      rcases List.mem_append.1 hj with hj | hj
      ·exact hF j hj
      ·obtain rfl := List.mem_singleton.1 hj
       rw [rdT_get hil, rd_get hif]
       exact ⟨by omega, by omega, c0, by simpa using c1, c2⟩) (by simp; omega)
     refine ⟨r, Ev.step (fun k => ?_) hr, hq⟩
     simp only [racewaylaw8_walked.l1]
     rw [if_pos (by omega), if_pos (by omega), rdT_get hil, rd_get hif, if_pos c0, if_pos (by omega), if_pos (by omega), if_neg c1, if_pos (by omega), if_pos c2, if_pos (by omega), wrap_succ (by omega)]
    ·obtain ⟨r, hr, hq⟩ := ih (i + 1) F (by omega) hF (by omega)
     refine ⟨r, Ev.step (fun k => ?_) hr, hq⟩
     simp only [racewaylaw8_walked.l1]
     rw [if_pos (by omega), if_pos (by omega), rdT_get hil, rd_get hif, if_pos c0, if_pos (by omega), if_pos (by omega), if_neg c1, if_pos (by omega), if_neg c2, wrap_succ (by omega)]
  ·obtain ⟨r, hr, hq⟩ := ih (i + 1) F (by omega) hF (by omega)
   refine ⟨r, Ev.step (fun k => ?_) hr, hq⟩
   simp only [racewaylaw8_walked.l1]
   rw [if_pos (by omega), if_pos (by omega), rdT_get hil, if_neg c0, wrap_succ (by omega)]
theorem rd_mem {F : List Int} {i : Int} (h0 : 0 ≤ i) (h1 : i < (F.length : Int)) : rd F i ∈ F := by
 have hlt : i.toNat < F.length := by omega
 have : rd F i = F[i.toNat] := by unfold rd; rw [List.getD_eq_getElem?_getD, List.getElem?_eq_getElem hlt]; rfl
 rw [this]; exact List.getElem_mem hlt
theorem rdT_mem {l : List S30} {i : Int} (h0 : 0 ≤ i) (h1 : i < (l.length : Int)) : rd_T30 l i ∈ l := by
 have hlt : i.toNat < l.length := by omega
 have : rd_T30 l i = l[i.toNat] := by unfold rd_T30; rw [List.getD_eq_getElem?_getD, List.getElem?_eq_getElem hlt]; rfl
 rw [this]; exact List.getElem_mem hlt
theorem walk_run {n s t raw : Int} {l : List S30} {f : List Int} (hraw : (Lit.int .i64 raw).wf = true) (hg : ∀ a ∈ l, GoodArc n a) (hlen : f.length = l.length) (hl : l.length ≤ 2000) (hn : n ≤ 500) (c : Nat) :
  ∀ (met : List Bool) (at_ : Int) (w : List Int), cntF met = c → (met.length : Int) = n + 1 → (w.length : Int) + c ≤ n + 1 → Path l s w at_ → w.Nodup →
   (∀ j ∈ w, 0 ≤ j ∧ j < (l.length : Int) ∧ rd f j < (rd_T30 l j).f2 ∧ rdOf false met (rd_T30 l j).f1 = true) →
   ∃ r, Ev (fun k => racewaylaw8_walked.l0 k f raw met at_ w n s t l) r ∧ GoodWalk l f s t r := by
 obtain ⟨r0, r1⟩ := wf_bounds hraw
 induction c with
 | zero =>
  intro met at_ w hc hm hw hp hnd hj
  by_cases ht : at_ = t
  ·refine ⟨w, Ev.step (f := fun _ => some w) (fun k => ?_) (Ev.now _), Or.inr ⟨by rw [← ht]; exact hp, hnd, fun j h => ⟨(hj j h).1, (hj j h).2.1, (hj j h).2.2.1⟩⟩⟩
   simp only [racewaylaw8_walked.l0]
   rw [if_pos ht]
  ·obtain ⟨r, hr, hq⟩ := fit_run (n := n) (s := s) (t := t) (at_ := at_) (raw := raw) (w := w) hg hlen hl hm (GoodWalk l f s t) (fun F hF hFl => by
    have hF0 : F = [] := by
     cases F with
     | nil => rfl
     | cons j F =>
      exfalso
      obtain ⟨h0, h1, h2, h3, h4⟩ := hF j List.mem_cons_self
      obtain ⟨g0, g1, g2, g3, _⟩ := hg _ (rdT_mem h0 h1)
      have := cntF_set (m := met) (i := ((rd_T30 l j).f1).toNat) (by omega) h3
      omega
    subst hF0
    refine ⟨[], Ev.step (f := fun _ => some []) (fun k => ?_) (Ev.now _), Or.inl rfl⟩
    simp only [racewaylaw8_walked.l1]
    rw [if_neg (by omega), if_pos (show (([] : List Int).length : Int) = 0 from rfl)]) l.length 0 [] (by omega) (fun j h => by cases h) (Nat.le_refl _)
   refine ⟨r, Ev.step (fun k => ?_) hr, hq⟩
   simp only [racewaylaw8_walked.l0]
   rw [if_neg ht]
   rfl
 | succ c ih =>
  intro met at_ w hc hm hw hp hnd hj
  by_cases ht : at_ = t
  ·refine ⟨w, Ev.step (f := fun _ => some w) (fun k => ?_) (Ev.now _), Or.inr ⟨by rw [← ht]; exact hp, hnd, fun j h => ⟨(hj j h).1, (hj j h).2.1, (hj j h).2.2.1⟩⟩⟩
   simp only [racewaylaw8_walked.l0]
   rw [if_pos ht]
  ·obtain ⟨r, hr, hq⟩ := fit_run (n := n) (s := s) (t := t) (at_ := at_) (raw := raw) (w := w) hg hlen hl hm (GoodWalk l f s t) (fun F hF hFl => by
    by_cases hF0 : F.length = 0
    ·refine ⟨[], Ev.step (f := fun _ => some []) (fun k => ?_) (Ev.now _), Or.inl rfl⟩
     simp only [racewaylaw8_walked.l1]
     rw [if_neg (by omega), if_pos (by omega)]
    ·obtain ⟨d0, d1⟩ := tdiv_bounds r0 r1 (d := (w.length : Int) + 1) (by omega)
     obtain ⟨p0, p1⟩ := pk_range (c := Int.tdiv raw ((w.length : Int) + 1)) (n := (F.length : Int)) (by omega)
     obtain ⟨j, hjd⟩ : ∃ j, rd F (pk (Int.tdiv raw ((w.length : Int) + 1)) (F.length : Int)) = j := ⟨_, rfl⟩
     obtain ⟨h0, h1, h2, h3, h4⟩ := hF j (by rw [← hjd]; exact rd_mem p0 p1)
     obtain ⟨g0, g1, g2, g3, _⟩ := hg _ (rdT_mem h0 h1)
     have hcs := cntF_set (m := met) (i := ((rd_T30 l j).f1).toNat) (by omega) h3
     obtain ⟨r, hr, hq⟩ := ih (met.set ((rd_T30 l j).f1).toNat true) (rd_T30 l j).f1 (w ++ [j]) (by omega) (by rw [List.length_set]; exact hm) (by simp; omega) (Path.snoc hp h2)
      (by
       rw [List.nodup_append]
       refine ⟨hnd, by simp, fun a ha b hb => ?_⟩
       obtain rfl := List.mem_singleton.1 hb
       rintro rfl
       have := (hj a ha).2.2.2
       rw [this] at h3; cases h3)
      (fun i hi => by
       rcases List.mem_append.1 hi with hi | hi
       ·obtain ⟨q0, q1, q2, q3⟩ := hj i hi
        obtain ⟨_, _, k2, k3, _⟩ := hg _ (rdT_mem q0 q1)
        refine ⟨q0, q1, q2, ?_⟩
        rw [rdOf_set (by omega) (by omega) (by omega)]
        split
        ·rfl
        ·exact q3
       ·obtain rfl := List.mem_singleton.1 hi
        refine ⟨h0, h1, h4, ?_⟩
        rw [rdOf_set (by omega) (by omega) (by omega), if_pos rfl])
     refine ⟨r, Ev.step (fun k => ?_) hr, hq⟩
     simp only [racewaylaw8_walked.l1]
     rw [if_neg (by omega), if_neg (by omega), wrap_id (x := (w.length : Int) + 1) (by omega) (by omega), if_neg (by omega), wrap_id d0 d1, pick_eq d0 d1 (by omega)]
     simp only [Option.bind_some]
     rw [if_pos p0, if_pos p1, if_pos (by omega), hjd, if_pos h0, if_pos h1, if_pos (by omega), if_pos (by omega)]) l.length 0 [] (by omega) (fun j h => by cases h) (Nat.le_refl _)
   refine ⟨r, Ev.step (fun k => ?_) hr, hq⟩
   simp only [racewaylaw8_walked.l0]
   rw [if_neg ht]
   rfl
theorem walked_ev {n s t raw : Int} {l : List S30} {f : List Int} (R : Right n s t l) (hlen : f.length = l.length) (hraw : (Lit.int .i64 raw).wf = true) :
  ∃ w, Ev (fun k => racewaylaw8_walked.f k n s t l f raw) w ∧ GoodWalk l f s t w := by
 have hn := R.n500
 have hn2 := R.n2
 have hs1 := R.s1
 have hsn := R.sn
 have hl1 : (List.replicate (n + 1).toNat false).length = (n + 1).toNat := List.length_replicate
 have hc0 : (List.replicate (n + 1).toNat false).getD s.toNat false = false := by
  rw [List.getD_eq_getElem?_getD, List.getElem?_replicate]; split <;> rfl
 have hcs := cntF_set (m := List.replicate (n + 1).toNat false) (i := s.toNat) (by omega) hc0
 rw [cntF_replicate] at hcs
 obtain ⟨r, hr, hq⟩ := walk_run (n := n) (s := s) (t := t) (raw := raw) hraw R.arcs hlen R.len hn (cntF ((List.replicate (n + 1).toNat false).set s.toNat true)) ((List.replicate (n + 1).toNat false).set s.toNat true) s [] rfl (by simp; omega) (by simp; omega) rfl List.nodup_nil (fun j h => by cases h)
 refine ⟨r, Ev.congr (fun k => ?_) hr, hq⟩
 unfold racewaylaw8_walked.f
 rw [wrap_id (x := n + 1) (by omega) (by omega), if_pos (by omega), if_pos (by omega)]
 simp only [Option.bind_some]
 rw [if_pos (by omega), if_pos (by omega)]
def push (f : List Int) (m : Int) : List Int → List Int
 | [] => f
 | j :: w => push (f.set j.toNat (rd f j + m)) m w
theorem push_rd {m : Int} : ∀ {w : List Int} {f : List Int}, (∀ j ∈ w, 0 ≤ j ∧ j < (f.length : Int)) → w.Nodup → ∀ i, 0 ≤ i → rd (push f m w) i = rd f i + if i ∈ w then m else 0
 | [], f, _, _, i, _ => by simp [push]
 | j :: w, f, h, hn, i, hi => by
  obtain ⟨h0, h1⟩ := h j List.mem_cons_self
  have hj := (List.nodup_cons.1 hn).1
  rw [push, push_rd (fun k hk => by rw [List.length_set]; exact h k (List.mem_cons_of_mem _ hk)) (List.nodup_cons.1 hn).2 i hi, rd_set h0 h1 hi]
  by_cases e : j = i
  ·subst e
   rw [if_pos rfl, if_neg hj, if_pos List.mem_cons_self]; omega
  ·rw [if_neg e]
   by_cases c : i ∈ w
   ·rw [if_pos c, if_pos (List.mem_cons_of_mem _ c)]
   ·rw [if_neg c, if_neg (fun hc => by rcases List.mem_cons.1 hc with hc | hc; exact e hc.symm; exact c hc)]
theorem rd_nat {f : List Int} {j : Int} (h0 : 0 ≤ j) (h1 : j < (f.length : Int)) (h : j.toNat < f.length) : f[j.toNat] = rd f j := by
 unfold rd; rw [List.getD_eq_getElem?_getD, List.getElem?_eq_getElem h]; rfl
theorem rdT_nat {l : List S30} {j : Int} (h0 : 0 ≤ j) (h1 : j < (l.length : Int)) (h : j.toNat < l.length) : l[j.toNat] = rd_T30 l j := by
 unfold rd_T30; rw [List.getD_eq_getElem?_getD, List.getElem?_eq_getElem h]; rfl
theorem push_within {l : List S30} {m : Int} (hm : 0 ≤ m) : ∀ {w : List Int} {f : List Int}, Within l f → w.Nodup → (∀ j ∈ w, 0 ≤ j ∧ j < (l.length : Int) ∧ rd f j + m ≤ (rd_T30 l j).f2) → Within l (push f m w)
 | [], f, W, _, _ => W
 | j :: w, f, W, hn, h => by
  obtain ⟨h0, h1, h2⟩ := h j List.mem_cons_self
  have hlen := W.len
  have hj := (List.nodup_cons.1 hn).1
  have hjl : j.toNat < l.length := by omega
  have hjf : j.toNat < f.length := by omega
  have hb := W.get j.toNat hjl hjf
  rw [rd_nat h0 (by omega) hjf, rdT_nat h0 h1 hjl] at hb
  rw [push]
  refine push_within hm (W.set j.toNat _ (by omega) (fun h' => by rw [rdT_nat h0 h1 h']; exact h2)) (List.nodup_cons.1 hn).2 (fun i hi => ?_)
  obtain ⟨q0, q1, q2⟩ := h i (List.mem_cons_of_mem _ hi)
  refine ⟨q0, q1, ?_⟩
  rw [rd_set h0 (by omega) q0, if_neg (fun e => hj (by rw [e]; exact hi))]
  exact q2
theorem push_exc {l : List S30} {m v : Int} : ∀ {w : List Int} {f : List Int} {a b : Int}, Path l a w b → f.length = l.length → (∀ j ∈ w, 0 ≤ j ∧ j < (l.length : Int)) →
  exc l (push f m w) v = exc l f v + ((if b = v then m else 0) - (if a = v then m else 0))
 | [], f, a, b, hp, _, _ => by
  have : a = b := hp
  subst this
  simp only [push]; omega
 | j :: w, f, a, b, hp, hlen, h => by
  obtain ⟨h0, h1⟩ := h j List.mem_cons_self
  obtain ⟨e0, hp⟩ := hp
  have hjl : j.toNat < l.length := by omega
  have hjf : j.toNat < f.length := by omega
  rw [push, push_exc hp (by rw [List.length_set]; exact hlen) (fun i hi => h i (List.mem_cons_of_mem _ hi)), exc_set j.toNat _ v hjl hjf, rd_nat h0 (by omega) hjf, rdT_nat h0 h1 hjl, e0]
  have e : rd f j + m - rd f j = m := by omega
  rw [e]; omega
def Step (l : List S30) (s t : Int) (f g : List Int) : Prop :=
 g = f ∨ ∃ w m, 1 ≤ m ∧ Path l s w t ∧ w.Nodup ∧ (∀ j ∈ w, 0 ≤ j ∧ j < (l.length : Int) ∧ rd f j + m ≤ (rd_T30 l j).f2) ∧ g = push f m w
theorem Step.flow {n s t : Int} {l : List S30} {f g : List Int} (h : Step l s t f g) (F : IsFlow n s t l f) : IsFlow n s t l g := by
 rcases h with rfl | ⟨w, m, hm, hp, hn, hj, rfl⟩
 ·exact F
 ·refine ⟨push_within (by omega) F.within hn hj, fun v h1 h2 h3 h4 => ?_⟩
  rw [push_exc hp F.within.len (fun j h => ⟨(hj j h).1, (hj j h).2.1⟩), F.cons v h1 h2 h3 h4, if_neg (fun e => h4 e.symm), if_neg (fun e => h3 e.symm)]; rfl
theorem Step.le {n s t : Int} {l : List S30} {f g : List Int} (h : Step l s t f g) (F : IsFlow n s t l f) : ∀ i, 0 ≤ i → rd f i ≤ rd g i := by
 intro i hi
 rcases h with rfl | ⟨w, m, hm, hp, hn, hj, rfl⟩
 ·exact Int.le_refl _
 ·have hlen := F.within.len
  rw [push_rd (fun j h => ⟨(hj j h).1, by have := (hj j h).2.1; omega⟩) hn i hi]
  split <;> omega
theorem Step.value {n s t : Int} {l : List S30} {f g : List Int} (h : Step l s t f g) (F : IsFlow n s t l f) (hst : s ≠ t) : exc l f t ≤ exc l g t := by
 rcases h with rfl | ⟨w, m, hm, hp, hn, hj, rfl⟩
 ·exact Int.le_refl _
 ·rw [push_exc hp F.within.len (fun j h => ⟨(hj j h).1, (hj j h).2.1⟩), if_pos rfl, if_neg hst]; omega
theorem most_run {n s t : Int} {l : List S30} {f w : List Int} (W : Within l f) (hcap : ∀ a ∈ l, a.f2 < 1000000000000) (hj : ∀ j ∈ w, 0 ≤ j ∧ j < (l.length : Int) ∧ rd f j < (rd_T30 l j).f2) (hwl : w.length ≤ 1000000) (d : Nat) :
  ∀ (j : Nat) (m : Int), j + d = w.length → 1 ≤ m → (∀ q, q < j → ∀ h : q < w.length, rd f w[q] + m ≤ (rd_T30 l w[q]).f2) →
   ∃ m', 1 ≤ m' ∧ m' ≤ m ∧ (∀ q ∈ w, rd f q + m' ≤ (rd_T30 l q).f2) ∧ ∀ (raws : List Int) (i : Int) r, Ev (fun k => racewaylaw8_routed.l2 k raws f i w m' 0 n s t l) r → Ev (fun k => racewaylaw8_routed.l1 k raws f i w m (j : Int) n s t l) r := by
 have hlen := W.len
 induction d with
 | zero =>
  intro j m hjd hm hq
  refine ⟨m, hm, Int.le_refl _, fun q hq' => ?_, fun raws i r hr => Ev.step (fun k => ?_) hr⟩
  ·obtain ⟨p, hp, rfl⟩ := List.getElem_of_mem hq'
   exact hq p (by omega) hp
  ·simp only [racewaylaw8_routed.l1]
   rw [if_neg (by omega)]
 | succ d ih =>
  intro j m hjd hm hq
  have hjw : j < w.length := by omega
  obtain ⟨h0, h1, h2⟩ := hj w[j] (List.getElem_mem hjw)
  have hc := hcap _ (rdT_mem h0 h1)
  have hb := W.get (w[j]).toNat (by omega) (by omega)
  rw [rd_nat h0 (by omega) (by omega), rdT_nat h0 h1 (by omega)] at hb
  obtain ⟨x, hx⟩ : ∃ x, (rd_T30 l w[j]).f2 - rd f w[j] = x := ⟨_, rfl⟩
  have hmn : 1 ≤ mn m x ∧ mn m x ≤ m ∧ mn m x ≤ x := by unfold mn; split <;> omega
  obtain ⟨m', g0, g1, g2, g3⟩ := ih (j + 1) (mn m x) (by omega) hmn.1 (fun q hqj hqw => by
   by_cases e : q = j
   ·subst e; omega
   ·have := hq q (by omega) hqw; omega)
  refine ⟨m', g0, by omega, g2, fun raws i r hr => Ev.step (fun k => ?_) (g3 raws i r hr)⟩
  simp only [racewaylaw8_routed.l1]
  rw [if_pos (by omega), if_pos (by omega), rd_get hjw, if_pos h0, if_pos h1, if_pos (by omega), wrap_id (by omega) (by omega), hx, wrap_succ (by omega)]
theorem push_run {n s t m : Int} {l : List S30} {raws w : List Int} {i : Nat} (hi : i ≤ 1000) (hm : 1 ≤ m) (hm2 : m ≤ 1000000000000) (hcap : ∀ a ∈ l, a.f2 < 1000000000000) (hwl : w.length ≤ 1000000) (d : Nat) :
  ∀ (j : Nat) (f : List Int), j + d = w.length → Within l f → (w.drop j).Nodup → (∀ q ∈ w.drop j, 0 ≤ q ∧ q < (l.length : Int) ∧ rd f q + m ≤ (rd_T30 l q).f2) →
   ∀ r, Ev (fun k => racewaylaw8_routed.l0 k raws (push f m (w.drop j)) ((i + 1 : Nat) : Int) n s t l) r → Ev (fun k => racewaylaw8_routed.l2 k raws f (i : Int) w m (j : Int) n s t l) r := by
 induction d with
 | zero =>
  intro j f hjd W _ _ r hr
  rw [List.drop_of_length_le (by omega), push] at hr
  refine Ev.step (fun k => ?_) hr
  simp only [racewaylaw8_routed.l2]
  rw [if_neg (by omega), wrap_succ (by omega)]
 | succ d ih =>
  intro j f hjd W hn hq r hr
  have hjw : j < w.length := by omega
  have hlen := W.len
  rw [List.drop_eq_getElem_cons hjw] at hn hq hr
  obtain ⟨h0, h1, h2⟩ := hq w[j] List.mem_cons_self
  have hc := hcap _ (rdT_mem h0 h1)
  have hb := W.get (w[j]).toNat (by omega) (by omega)
  rw [rd_nat h0 (by omega) (by omega), rdT_nat h0 h1 (by omega)] at hb
  have hnot := (List.nodup_cons.1 hn).1
  rw [push] at hr
  refine Ev.step (fun k => ?_) (ih (j + 1) (f.set (w[j]).toNat (rd f w[j] + m)) (by omega) (W.set _ _ (by omega) (fun h' => by rw [rdT_nat h0 h1 h']; exact h2)) (List.nodup_cons.1 hn).2 (fun q hq' => by
   obtain ⟨q0, q1, q2⟩ := hq q (List.mem_cons_of_mem _ hq')
   refine ⟨q0, q1, ?_⟩
   rw [rd_set h0 (by omega) q0, if_neg (fun e => hnot (by rw [e]; exact hq'))]
   exact q2) r hr)
  simp only [racewaylaw8_routed.l2]
  rw [if_pos (by omega), if_pos (by omega), rd_get hjw, if_pos h0, if_pos (by omega), wrap_id (by omega) (by omega), wrap_succ (by omega)]
theorem nodup_bound : ∀ {k : Nat} {w : List Int}, w.Nodup → (∀ j ∈ w, 0 ≤ j ∧ j < (k : Int)) → w.length ≤ k
 | 0, [], _, _ => Nat.le_refl _
 | 0, j :: _, _, h => by have := h j List.mem_cons_self; omega
 | k + 1, w, hn, h => by
  have h1 : (w.erase (k : Int)).length ≤ k := nodup_bound (hn.erase _) (fun j hj => by
   have hjw := List.mem_of_mem_erase hj
   have := h j hjw
   have hne : j ≠ (k : Int) := fun e => by
    rw [e] at hj
    exact (List.Nodup.not_mem_erase hn) hj
   omega)
  have h2 := List.length_erase_le (a := (k : Int)) (l := w)
  have h3 : w.length ≤ (w.erase (k : Int)).length + 1 := by
   rw [List.length_erase]; split <;> omega
  omega
theorem step_ev {n s t raw : Int} {l : List S30} {f : List Int} (R : Right n s t l) (hcap : ∀ a ∈ l, a.f2 < 1000000000000) (W : Within l f) (hraw : (Lit.int .i64 raw).wf = true) :
  ∃ g, Step l s t f g ∧ ∀ (raws : List Int) (i : Nat), i < 8 → i < raws.length → rd raws (i : Int) = raw →
   ∀ r, Ev (fun k => racewaylaw8_routed.l0 k raws g ((i + 1 : Nat) : Int) n s t l) r → Ev (fun k => racewaylaw8_routed.l0 k raws f (i : Int) n s t l) r := by
 obtain ⟨w, hw, hgood⟩ := walked_ev (f := f) (raw := raw) R W.len hraw
 obtain ⟨r0, r1⟩ := wf_bounds hraw
 have p := pk_range (c := raw) (n := 30) (by omega)
 have hl := R.len
 have hwp : (∀ j ∈ w, 0 ≤ j ∧ j < (l.length : Int) ∧ rd f j < (rd_T30 l j).f2) ∧ w.Nodup := by
  rcases hgood with rfl | ⟨_, h1, h2⟩
  ·exact ⟨(fun j hj => by cases hj), List.nodup_nil⟩
  ·exact ⟨h2, h1⟩
 have hwl := nodup_bound hwp.2 (fun j hj => ⟨(hwp.1 j hj).1, (hwp.1 j hj).2.1⟩)
 obtain ⟨m, m0, m1, m2, m3⟩ := most_run (n := n) (s := s) (t := t) W hcap hwp.1 (by omega) w.length 0 (pk raw 30 + 1) (by omega) (by omega) (fun q hq => by omega)
 refine ⟨push f m w, ?_, fun raws i hi hir hrr r hr => ?_⟩
 ·rcases hgood with rfl | ⟨hp, h1, h2⟩
  ·exact Or.inl rfl
  ·exact Or.inr ⟨w, m, m0, hp, h1, fun j hj => ⟨(hwp.1 j hj).1, (hwp.1 j hj).2.1, m2 j hj⟩, rfl⟩
 ·have h2 := push_run (n := n) (s := s) (t := t) (m := m) (raws := raws) (w := w) (i := i) (by omega) m0 (by omega) hcap (by omega) w.length 0 f (by omega) W (by rw [List.drop_zero]; exact hwp.2) (by rw [List.drop_zero]; exact fun q hq => ⟨(hwp.1 q hq).1, (hwp.1 q hq).2.1, m2 q hq⟩) r (by rw [List.drop_zero]; exact hr)
  have h1 := m3 raws (i : Int) r h2
  refine Ev.step (f := fun k => racewaylaw8_routed.j1 k raws f (i : Int) true n s t l) (fun k => ?_) (Ev.step (f := fun k => (racewaylaw8_walked.f k n s t l f raw).bind fun w => (racewaylaw8_pick.f raw 30).bind fun p => racewaylaw8_routed.l1 k raws f (i : Int) w (wrap64 (p + 1)) 0 n s t l) (fun k => ?_) (Ev.bind hw (Ev.congr (fun k => ?_) h1)))
  ·simp only [racewaylaw8_routed.l0]
   rw [if_pos (by omega), decide_eq_true (by omega)]
  ·simp only [racewaylaw8_routed.j1, if_true]
   rw [if_pos (by omega), if_pos (by omega), hrr]
  ·rw [pick_eq r0 r1 (by omega)]
   simp only [Option.bind_some]
   rw [wrap_id (by omega) (by omega)]
   rfl
theorem steps_ev {n s t : Int} {l : List S30} (R : Right n s t l) (hcap : ∀ a ∈ l, a.f2 < 1000000000000) {raws : List Int} (hraws : ∀ x ∈ raws, (Lit.int .i64 x).wf = true) (d : Nat) :
  ∀ (i : Nat) (f : List Int), i + d = min raws.length 8 → IsFlow n s t l f → ∃ g, IsFlow n s t l g ∧ (∀ j, 0 ≤ j → rd f j ≤ rd g j) ∧ exc l f t ≤ exc l g t ∧ Ev (fun k => racewaylaw8_routed.l0 k raws f (i : Int) n s t l) g := by
 induction d with
 | zero =>
  intro i f hi F
  refine ⟨f, F, fun _ _ => Int.le_refl _, Int.le_refl _, ?_⟩
  refine Ev.step (f := fun k => racewaylaw8_routed.j1 k raws f (i : Int) false n s t l) (fun k => ?_) (Ev.step (f := fun _ => some f) (fun k => ?_) (Ev.now _))
  ·simp only [racewaylaw8_routed.l0]
   by_cases c : (i : Int) < (raws.length : Int)
   ·rw [if_pos c, decide_eq_false (by omega)]
   ·rw [if_neg c]
  ·simp [racewaylaw8_routed.j1]
 | succ d ih =>
  intro i f hi F
  have hir : i < raws.length := by omega
  obtain ⟨g, hs, hg⟩ := step_ev (raw := rd raws (i : Int)) R hcap F.within (hraws _ (rd_mem (by omega) (by omega)))
  obtain ⟨h, H1, H2, H3, H4⟩ := ih (i + 1) g (by omega) (hs.flow F)
  exact ⟨h, H1, fun j hj => Int.le_trans (hs.le F j hj) (H2 j hj), Int.le_trans (hs.value F R.ne) H3, hg raws i (by omega) hir rfl h H4⟩
theorem routed_ev {n s t : Int} {l : List S30} (R : Right n s t l) (hcap : ∀ a ∈ l, a.f2 < 1000000000000) {raws : List Int} (hraws : ∀ x ∈ raws, (Lit.int .i64 x).wf = true) :
  ∃ g, IsFlow n s t l g ∧ 0 ≤ exc l g t ∧ Ev (fun k => racewaylaw8_routed.f k n s t l raws) g := by
 have hl := R.len
 obtain ⟨g, h1, _, h2, h3⟩ := steps_ev R hcap hraws (min raws.length 8) 0 (List.replicate l.length 0) (by omega) (IsFlow.zeros R.arcs)
 rw [exc_zeros] at h2
 refine ⟨g, h1, h2, Ev.congr (fun k => ?_) h3⟩
 unfold racewaylaw8_routed.f
 rw [if_pos (by omega), if_pos (by omega)]
 rfl
theorem value_flow {n s t : Int} {l : List S30} {f : List Int} (R : Right n s t l) (F : IsFlow n s t l f) : Ev (fun k => flow_Value.f k n s t l f) (exc l f t, 0) := by
 obtain ⟨x, h1, h2, h3⟩ := excesses_ev R F.within
 have ht1 := R.t1
 have htn := R.tn
 unfold flow_Value.f
 refine Ev.bind (check_flow R F) ?_
 simp only [if_true]
 refine Ev.bind h1 ?_
 refine Ev.congr (fun k => ?_) (Ev.now (exc l f t, 0))
 rw [if_pos (by omega), if_pos (by omega), h3 t (by omega) htn]
theorem bit_odd {r : Int} (h0 : 0 ≤ r) (h1 : r ≤ 1000000) : Go.bits .and .i64 r 1 = r % 2 := by
 obtain ⟨i, rfl⟩ : ∃ i : Nat, r = (i : Int) := ⟨r.toNat, by omega⟩
 rw [Go.Proofs.and_one i (by omega)]; omega
theorem tdiv2 {r : Int} (h0 : 0 ≤ r) : Int.tdiv r 2 = r / 2 := Int.tdiv_eq_ediv_of_nonneg h0
def fromOf (l : List S30) (r : Int) : Int := if r % 2 = 1 then (rd_T30 l (r / 2)).f1 else (rd_T30 l (r / 2)).f0
def toOf (l : List S30) (r : Int) : Int := if r % 2 = 1 then (rd_T30 l (r / 2)).f0 else (rd_T30 l (r / 2)).f1
def InR (l : List S30) (r : Int) : Prop := 0 ≤ r ∧ r < 2 * (l.length : Int)
theorem ends_ev {n s t r : Int} {l : List S30} (h : InR l r) (hl : l.length ≤ 2000) : Ev (fun k => residual_Ends.f k n s t l r) (fromOf l r, toOf l r) := by
 obtain ⟨h0, h1⟩ := h
 have hd : wrap64 (Int.tdiv r 2) = r / 2 := by rw [tdiv2 h0, wrap_id (by omega) (by omega)]
 have e : Ev (fun k => residual_Ends.j0 k r (decide (wrap64 (Int.tdiv r 2) ≥ (l.length : Int))) n s t l) (fromOf l r, toOf l r) := by
  refine Ev.step (f := fun _ => some (fromOf l r, toOf l r)) (fun k => ?_) (Ev.now _)
  simp only [residual_Ends.j0, hd, bit_odd h0 (show r ≤ 1000000 by omega)]
  rw [if_neg (by simp; omega), if_pos (by omega), if_pos (by omega)]
  unfold fromOf toOf
  by_cases c : r % 2 = 1
  ·rw [if_pos c, if_pos c, if_pos c]
  ·rw [if_neg c, if_neg c, if_neg c]
 refine Ev.congr (fun k => ?_) e
 unfold residual_Ends.f
 rw [if_neg (by omega)]
theorem ends_range {n : Int} {l : List S30} {r : Int} (hg : ∀ a ∈ l, GoodArc n a) (h : InR l r) : 1 ≤ fromOf l r ∧ fromOf l r ≤ n ∧ 1 ≤ toOf l r ∧ toOf l r ≤ n := by
 obtain ⟨h0, h1⟩ := h
 obtain ⟨g0, g1, g2, g3, _⟩ := hg _ (rdT_mem (l := l) (i := r / 2) (by omega) (by omega))
 unfold fromOf toOf
 split <;> omega
theorem roomOf_len : ∀ {l : List S30} {f : List Int}, f.length = l.length → (roomOf l f).length = 2 * l.length
 | [], [], _ => rfl
 | a :: l, x :: f, h => by
  have := roomOf_len (l := l) (f := f) (by simpa using h)
  simp only [roomOf, List.length_cons, this]; omega
 | [], _ :: _, h => absurd h (by simp)
 | _ :: _, [], h => absurd h (by simp)
theorem roomOf_get : ∀ {l : List S30} {f : List Int} (W : Within l f) (hcap : ∀ a ∈ l, a.f2 < 1000000000000) (i : Nat), i < l.length →
  (roomOf l f)[2 * i]? = some ((rd_T30 l (i : Int)).f2 - rd f (i : Int)) ∧ (roomOf l f)[2 * i + 1]? = some (rd f (i : Int))
 | [], _, _, _, i, h => absurd h (by simp)
 | _ :: _, [], W, _, _, _ => W.elim
 | a :: l, x :: f, W, hcap, 0, _ => by
  have h0 := W.1
  have h1 := W.2.1
  have h2 := hcap a List.mem_cons_self
  simp only [roomOf, rd, rd_T30]
  simp only [Nat.mul_zero, Nat.zero_add, List.getElem?_cons_zero, List.getElem?_cons_succ]
  rw [wrap_id (by omega) (by omega)]
  exact ⟨rfl, rfl⟩
 | a :: l, x :: f, W, hcap, i + 1, h => by
  have ih := roomOf_get W.2.2 (fun b hb => hcap b (List.mem_cons_of_mem _ hb)) i (by simpa using h)
  have e1 : rd (x :: f) ((i + 1 : Nat) : Int) = rd f (i : Int) := by
   unfold rd
   rw [show ((i + 1 : Nat) : Int).toNat = i + 1 by omega, show (i : Int).toNat = i by omega]; rfl
  have e2 : rd_T30 (a :: l) ((i + 1 : Nat) : Int) = rd_T30 l (i : Int) := by
   unfold rd_T30
   rw [show ((i + 1 : Nat) : Int).toNat = i + 1 by omega, show (i : Int).toNat = i by omega]; rfl
  rw [e1, e2]
  simp only [roomOf]
  rw [show 2 * (i + 1) = 2 * i + 1 + 1 by omega, show 2 * i + 1 + 1 + 1 = (2 * i + 1) + 1 + 1 by omega]
  simp only [List.getElem?_cons_succ]
  exact ih
theorem roomOf_rd {l : List S30} {f : List Int} (W : Within l f) (hcap : ∀ a ∈ l, a.f2 < 1000000000000) {i : Int} (h0 : 0 ≤ i) (h1 : i < (l.length : Int)) :
  rd (roomOf l f) (2 * i) = (rd_T30 l i).f2 - rd f i ∧ rd (roomOf l f) (2 * i + 1) = rd f i := by
 obtain ⟨j, rfl⟩ : ∃ j : Nat, i = (j : Int) := ⟨i.toNat, by omega⟩
 obtain ⟨a, b⟩ := roomOf_get W hcap j (by omega)
 constructor
 ·show (roomOf l f).getD (2 * (j : Int)).toNat 0 = _
  rw [List.getD_eq_getElem?_getD, show (2 * (j : Int)).toNat = 2 * j by omega, a]; rfl
 ·show (roomOf l f).getD (2 * (j : Int) + 1).toNat 0 = _
  rw [List.getD_eq_getElem?_getD, show (2 * (j : Int) + 1).toNat = 2 * j + 1 by omega, b]; rfl
theorem room_ev {n s t : Int} {l : List S30} {f : List Int} (R : Right n s t l) (F : IsFlow n s t l f) : Ev (fun k => residual_Room.f k n s t l f) (roomOf l f, 0) := by
 have hlen := F.within.len
 have hl := R.len
 unfold residual_Room.f
 refine Ev.bind (check_flow R F) ?_
 have c : f.length ≤ l.length ∧ f.length ≤ 8796093022208 := by omega
 simp only [if_true, if_pos c]
 exact Ev.now _
def RPath (l : List S30) : Int → List Int → Int → Prop
 | u, [], v => u = v
 | u, r :: w, v => fromOf l r = u ∧ RPath l (toOf l r) w v
theorem RPath.snoc {l : List S30} : ∀ {w : List Int} {u v r : Int}, RPath l u w v → fromOf l r = v → RPath l u (w ++ [r]) (toOf l r)
 | [], u, v, r, h, hr => ⟨by rw [hr]; exact h.symm, rfl⟩
 | _ :: w, u, v, r, h, hr => ⟨h.1, RPath.snoc h.2 hr⟩
def rm (r m : Int) : Int := if r % 2 = 1 then -m else m
def rpush (f : List Int) (m : Int) : List Int → List Int
 | [] => f
 | r :: w => rpush (f.set (r / 2).toNat (rd f (r / 2) + rm r m)) m w
theorem rpush_length (m : Int) : ∀ (w : List Int) (f : List Int), (rpush f m w).length = f.length
 | [], _ => rfl
 | r :: w, f => by rw [rpush, rpush_length m w, List.length_set]
def dm (m i : Int) : List Int → Int
 | [] => 0
 | r :: w => (if r / 2 = i then rm r m else 0) + dm m i w
theorem dm_not {m i : Int} : ∀ {w : List Int}, i ∉ w.map (· / 2) → dm m i w = 0
 | [], _ => rfl
 | r :: w, h => by
  simp only [List.map_cons, List.mem_cons, not_or] at h
  simp only [dm, dm_not h.2]
  rw [if_neg (fun e => h.1 e.symm)]; rfl
theorem dm_in {m : Int} : ∀ {w : List Int}, (w.map (· / 2)).Nodup → ∀ r ∈ w, dm m (r / 2) w = rm r m
 | [], _, r, h => by cases h
 | q :: w, hn, r, h => by
  simp only [List.map_cons, List.nodup_cons] at hn
  simp only [dm]
  rcases List.mem_cons.1 h with rfl | h
  ·rw [if_pos rfl, dm_not hn.1]; omega
  ·rw [if_neg (fun e => hn.1 (by rw [e]; exact List.mem_map_of_mem h)), dm_in hn.2 r h]; omega
theorem rpush_rd {m : Int} : ∀ {w : List Int} {f : List Int}, (∀ r ∈ w, 0 ≤ r ∧ r < 2 * (f.length : Int)) → ∀ i, 0 ≤ i → rd (rpush f m w) i = rd f i + dm m i w
 | [], f, _, i, _ => by simp [rpush, dm]
 | r :: w, f, h, i, hi => by
  obtain ⟨h0, h1⟩ := h r List.mem_cons_self
  rw [rpush, rpush_rd (fun q hq => by rw [List.length_set]; exact h q (List.mem_cons_of_mem _ hq)) i hi, rd_set (by omega) (by omega) hi]
  simp only [dm]
  by_cases e : r / 2 = i
  ·rw [if_pos e, if_pos e, e]; omega
  ·rw [if_neg e, if_neg e]; omega
theorem rd_ext {f g : List Int} (hl : f.length = g.length) (h : ∀ i, 0 ≤ i → rd f i = rd g i) : f = g := by
 refine List.ext_getElem hl (fun i h1 h2 => ?_)
 have := h (i : Int) (by omega)
 rwa [rd_get h1, rd_get h2] at this
def Fits (l : List S30) (f : List Int) (m : Int) (w : List Int) : Prop := ∀ r ∈ w, 0 ≤ rd f (r / 2) + rm r m ∧ rd f (r / 2) + rm r m ≤ (rd_T30 l (r / 2)).f2
theorem within_rd {l : List S30} {f : List Int} (W : Within l f) {i : Int} (h0 : 0 ≤ i) (h1 : i < (l.length : Int)) : 0 ≤ rd f i ∧ rd f i ≤ (rd_T30 l i).f2 := by
 have hlen := W.len
 have hb := W.get i.toNat (by omega) (by omega)
 rwa [rd_nat h0 (by omega) (by omega), rdT_nat h0 h1 (by omega)] at hb
theorem within_of_rd {l : List S30} {f : List Int} (hlen : f.length = l.length) (h : ∀ i, 0 ≤ i → i < (l.length : Int) → 0 ≤ rd f i ∧ rd f i ≤ (rd_T30 l i).f2) : Within l f :=
 Within.of hlen (fun i h1 h2 => by have := h (i : Int) (by omega) (by omega); rwa [rd_get h2, rdT_get h1] at this)
theorem rpush_within {l : List S30} {f w : List Int} {m : Int} (W : Within l f) (hw : ∀ r ∈ w, InR l r) (hn : (w.map (· / 2)).Nodup) (h : Fits l f m w) : Within l (rpush f m w) := by
 have hlen := W.len
 refine within_of_rd (by rw [rpush_length]; exact hlen) (fun i h0 h1 => ?_)
 rw [rpush_rd (fun r hr => by have := hw r hr; unfold InR at this; omega) i h0]
 by_cases c : i ∈ w.map (· / 2)
 ·obtain ⟨r, hr, rfl⟩ := List.mem_map.1 c
  rw [dm_in hn r hr]; exact h r hr
 ·rw [dm_not c]
  have := within_rd W h0 h1
  omega
theorem rpush_exc {l : List S30} {m v : Int} : ∀ {w : List Int} {f : List Int} {a b : Int}, RPath l a w b → f.length = l.length → (∀ r ∈ w, InR l r) →
  exc l (rpush f m w) v = exc l f v + ((if b = v then m else 0) - (if a = v then m else 0))
 | [], f, a, b, hp, _, _ => by
  have : a = b := hp
  subst this
  simp only [rpush]; omega
 | r :: w, f, a, b, hp, hlen, h => by
  obtain ⟨h0, h1⟩ := h r List.mem_cons_self
  obtain ⟨e0, hp⟩ := hp
  have hjl : (r / 2).toNat < l.length := by omega
  have hjf : (r / 2).toNat < f.length := by omega
  rw [rpush, rpush_exc hp (by rw [List.length_set]; exact hlen) (fun i hi => h i (List.mem_cons_of_mem _ hi)), exc_set (r / 2).toNat _ v hjl hjf, rd_nat (by omega) (by omega) hjf, rdT_nat (by omega) (by omega) hjl, ← e0]
  have e : rd f (r / 2) + rm r m - rd f (r / 2) = rm r m := by omega
  rw [e]
  unfold fromOf toOf rm
  by_cases c : r % 2 = 1
  ·rw [if_pos c, if_pos c, if_pos c]
   split <;> split <;> split <;> omega
  ·rw [if_neg c, if_neg c, if_neg c]
   split <;> split <;> split <;> omega
theorem rpush_flow {n s t m : Int} {l : List S30} {f w : List Int} (F : IsFlow n s t l f) (hp : RPath l s w t) (hw : ∀ r ∈ w, InR l r) (hn : (w.map (· / 2)).Nodup) (h : Fits l f m w) : IsFlow n s t l (rpush f m w) :=
 ⟨rpush_within F.within hw hn h, fun v h1 h2 h3 h4 => by
  rw [rpush_exc hp F.within.len hw, F.cons v h1 h2 h3 h4, if_neg (fun e => h4 e.symm), if_neg (fun e => h3 e.symm)]; rfl⟩
theorem push_set {l : List S30} {n s t m : Int} {w : List Int} (hw : ∀ r ∈ w, InR l r) (hl : l.length ≤ 2000) (hwl : w.length ≤ 1000000) (hm : 1 ≤ m) (hm2 : m ≤ 2000000000000) (hcap : ∀ a ∈ l, a.f2 < 1000000000000) (d : Nat) :
  ∀ (j : Nat) (f : List Int), j + d = w.length → Within l f → ((w.drop j).map (· / 2)).Nodup →
   (Fits l f m (w.drop j) → Ev (fun k => residual_Push.l1 k f m w (w.length : Int) (j : Int) n s t l) (rpush f m (w.drop j), 0)) ∧
   (¬ Fits l f m (w.drop j) → Ev (fun k => residual_Push.l1 k f m w (w.length : Int) (j : Int) n s t l) ([], 9)) := by
 induction d with
 | zero =>
  intro j f hj W hn
  rw [List.drop_of_length_le (by omega)]
  refine ⟨fun _ => Ev.step (f := fun _ => some (f, 0)) (fun k => ?_) (Ev.now _), fun h => absurd (fun r hr => by cases hr) h⟩
  simp only [residual_Push.l1]
  rw [if_neg (by omega)]
 | succ d ih =>
  intro j f hj W hn
  have hjw : j < w.length := by omega
  have hlen := W.len
  rw [List.drop_eq_getElem_cons hjw] at hn ⊢
  obtain ⟨r, hr⟩ : ∃ r, w[j] = r := ⟨_, rfl⟩
  rw [hr] at hn ⊢
  obtain ⟨h0, h1⟩ := hw r (by rw [← hr]; exact List.getElem_mem hjw)
  have hrd : rd w (j : Int) = r := by rw [rd_get hjw, hr]
  simp only [List.map_cons, List.nodup_cons] at hn
  have hc := hcap _ (rdT_mem (l := l) (i := r / 2) (by omega) (by omega))
  have hb := within_rd W (i := r / 2) (by omega) (by omega)
  have hd : wrap64 (Int.tdiv r 2) = r / 2 := by rw [tdiv2 h0, wrap_id (by omega) (by omega)]
  obtain ⟨x, hx⟩ : ∃ x, rd f (r / 2) = x := ⟨_, rfl⟩
  obtain ⟨c, hcc⟩ : ∃ c, (rd_T30 l (r / 2)).f2 = c := ⟨_, rfl⟩
  rw [hx, hcc] at hb
  rw [hcc] at hc
  have hrm : (r % 2 = 1 ∧ rm r m = -m) ∨ (¬ r % 2 = 1 ∧ rm r m = m) := by unfold rm; by_cases e : r % 2 = 1 <;> simp [e]
  have key : ∀ f', f' = f.set (r / 2).toNat (x + rm r m) → (0 ≤ x + rm r m ∧ x + rm r m ≤ c) → (Fits l f' m (w.drop (j + 1)) ↔ Fits l f m (w.drop (j + 1))) := fun f' e _ => by
   have z : ∀ q ∈ w.drop (j + 1), rd f' (q / 2) = rd f (q / 2) := fun q hq => by
    have hq0 := hw q (List.mem_of_mem_drop hq)
    have hq0 := hq0.1
    rw [e, rd_set (by omega) (by omega) (by omega), if_neg (fun e => hn.1 (by rw [e]; exact List.mem_map_of_mem hq))]
   exact ⟨fun h q hq => by rw [← z q hq]; exact h q hq, fun h q hq => by rw [z q hq]; exact h q hq⟩
  have go : (0 ≤ x + rm r m ∧ x + rm r m ≤ c) → ∀ res, Ev (fun k => residual_Push.l1 k (f.set (r / 2).toNat (x + rm r m)) m w (w.length : Int) ((j + 1 : Nat) : Int) n s t l) res → Ev (fun k => residual_Push.l1 k f m w (w.length : Int) (j : Int) n s t l) res := fun hf res hres => by
   refine Ev.step (fun k => ?_) hres
   simp only [residual_Push.l1, hrd, hd, bit_odd h0 (show r ≤ 1000000 by omega), hx, hcc]
   rw [if_pos (by omega), if_pos (by omega), if_pos (by omega)]
   rcases hrm with ⟨e, e'⟩ | ⟨e, e'⟩
   ·rw [e'] at hf ⊢
    rw [if_pos e, if_pos (by omega), if_pos (by omega), if_pos (by omega), wrap_id (x := -m) (by omega) (by omega), wrap_id (x := c - -m) (by omega) (by omega), if_neg (by omega), wrap_id (x := - -m) (by omega) (by omega), if_neg (by omega), wrap_id (x := x + -m) (by omega) (by omega), wrap_succ (by omega)]
   ·rw [e'] at hf ⊢
    rw [if_neg e, if_pos (by omega), if_pos (by omega), if_pos (by omega), wrap_id (x := c - m) (by omega) (by omega), if_neg (by omega), wrap_id (x := -m) (by omega) (by omega), if_neg (by omega), wrap_id (x := x + m) (by omega) (by omega), wrap_succ (by omega)]
  by_cases hf : 0 ≤ x + rm r m ∧ x + rm r m ≤ c
  ·have W' : Within l (f.set (r / 2).toNat (x + rm r m)) := W.set _ _ hf.1 (fun h' => by rw [rdT_nat (by omega) (by omega) h', hcc]; exact hf.2)
   obtain ⟨a, b⟩ := ih (j + 1) _ (by omega) W' hn.2
   refine ⟨fun h => ?_, fun h => ?_⟩
   ·have := a ((key _ rfl hf).2 (fun q hq => h q (List.mem_cons_of_mem _ hq)))
    rw [rpush, hx]
    exact go hf _ this
   ·refine go hf _ (b (fun h' => h (fun q hq => ?_)))
    rcases List.mem_cons.1 hq with rfl | hq
    ·rw [hx, hcc]; exact hf
    ·exact (key _ rfl hf).1 h' q hq
  ·refine ⟨fun h => absurd (by have := h r List.mem_cons_self; rwa [hx, hcc] at this) hf, fun _ => Ev.step (f := fun _ => some ([], 9)) (fun k => ?_) (Ev.now _)⟩
   simp only [residual_Push.l1, hrd, hd, bit_odd h0 (show r ≤ 1000000 by omega), hx, hcc]
   rw [if_pos (by omega), if_pos (by omega), if_pos (by omega)]
   rcases hrm with ⟨e, e'⟩ | ⟨e, e'⟩
   ·rw [e'] at hf
    rw [if_pos e, if_pos (by omega), if_pos (by omega), if_pos (by omega), wrap_id (x := -m) (by omega) (by omega), wrap_id (x := c - -m) (by omega) (by omega), wrap_id (x := - -m) (by omega) (by omega)]
    by_cases e2 : x > c - -m
    ·rw [if_pos e2]
    ·rw [if_neg e2, if_pos (by omega)]
   ·rw [e'] at hf
    rw [if_neg e, if_pos (by omega), if_pos (by omega), if_pos (by omega), wrap_id (x := c - m) (by omega) (by omega), wrap_id (x := -m) (by omega) (by omega)]
    by_cases e2 : x > c - m
    ·rw [if_pos e2]
    ·rw [if_neg e2, if_pos (by omega)]
theorem push_walk {l : List S30} {n s t m : Int} {f w : List Int} (hg : ∀ a ∈ l, GoodArc n a) (hw : ∀ r ∈ w, InR l r) (hl : l.length ≤ 2000) (hwl : w.length ≤ 1000000) (hst : s ≠ t) {v : Int} (res : List Int × Int)
  (H : Ev (fun k => residual_Push.j1 k f w m (if w.length = 0 then true else v != t) n s t l) res) (d : Nat) :
  ∀ (j : Nat) (u : Int), j + d = w.length → RPath l u (w.drop j) v → Ev (fun k => residual_Push.l0 k f w m u w (w.length : Int) (j : Int) n s t l) res := by
 induction d with
 | zero =>
  intro j u hj hp
  rw [List.drop_of_length_le (by omega)] at hp
  have e : u = v := hp
  subst e
  refine Ev.step (fun k => ?_) H
  simp only [residual_Push.l0]
  rw [if_neg (by omega)]
  by_cases c : w.length = 0
  ·rw [if_pos (by omega), if_pos c]
  ·rw [if_neg (by omega), if_neg c]
 | succ d ih =>
  intro j u hj hp
  have hjw : j < w.length := by omega
  rw [List.drop_eq_getElem_cons hjw] at hp
  obtain ⟨e0, hp⟩ := hp
  have hr := hw _ (List.getElem_mem hjw)
  obtain ⟨g0, g1, g2, g3⟩ := ends_range hg hr
  refine Ev.step (f := ?g) (fun k => ?h) ?e
  case h =>
   simp only [residual_Push.l0]
   rw [if_pos (by omega), if_pos (by omega), if_pos (by omega), rd_get hjw]
  case e =>
   refine Ev.bind (ends_ev hr hl) ?_
   simp only [if_pos e0, if_neg (show ¬ toOf l w[j] = 0 by omega)]
   refine Ev.congr (fun k => ?_) (ih (j + 1) (toOf l w[j]) (by omega) hp)
   rw [wrap_succ (by omega)]
theorem push_both {n s t m : Int} {l : List S30} {f w : List Int} (R : Right n s t l) (F : IsFlow n s t l f) (hw : ∀ r ∈ w, InR l r) (hwl : w.length ≤ 1000000) (hp : RPath l s w t) (hn : (w.map (· / 2)).Nodup) (hm : 1 ≤ m) (hm2 : m ≤ 2000000000000) (hcap : ∀ a ∈ l, a.f2 < 1000000000000) :
  (Fits l f m w → Ev (fun k => residual_Push.f k n s t l f w m) (rpush f m w, 0)) ∧ (¬ Fits l f m w → Ev (fun k => residual_Push.f k n s t l f w m) ([], 9)) := by
 have hne : w.length ≠ 0 := fun e => by
  rw [List.length_eq_zero_iff] at e
  rw [e] at hp
  exact R.ne hp
 have hlen := F.within.len
 have hl := R.len
 have go : ∀ res, Ev (fun k => residual_Push.l1 k f m w (w.length : Int) 0 n s t l) res → Ev (fun k => residual_Push.f k n s t l f w m) res := fun res hres => by
  refine Ev.bind (check_flow R F) ?_
  simp only [if_true]
  refine push_walk R.arcs hw R.len hwl R.ne (v := t) res ?_ w.length 0 s (by omega) (by simpa using hp)
  refine Ev.step (fun k => ?_) hres
  simp only [residual_Push.j1, clone64.f]
  rw [if_neg hne, if_neg (by simp), if_neg (by omega), if_pos (by omega)]
  rfl
 obtain ⟨a, b⟩ := push_set (n := n) (s := s) (t := t) hw R.len hwl hm hm2 hcap w.length 0 f (by omega) F.within (by simpa using hn)
 exact ⟨fun h => go _ (by simpa using a (by simpa using h)), fun h => go _ (by simpa using b (by simpa using h))⟩
def cntM : List Int → Nat
 | [] => 0
 | x :: t => (if x = -1 then 1 else 0) + cntM t
theorem cntM_set {x : Int} (hx : x ≠ -1) : ∀ {m : List Int} {i : Nat} (h : i < m.length), m[i] = -1 → cntM (m.set i x) + 1 = cntM m
 | [], i, h, _ => absurd h (by simp)
 | y :: t, 0, _, hy => by
  have hy : y = -1 := hy
  simp only [List.set_cons_zero, cntM, if_neg hx, if_pos hy]
  omega
 | y :: t, i + 1, h, hy => by
  have h1 : i < t.length := by simpa using h
  have ih := cntM_set hx h1 (by simpa using hy)
  simp only [List.set_cons_succ, cntM]
  omega
theorem cntM_replicate : ∀ k, cntM (List.replicate k (-1)) = k
 | 0 => rfl
 | k + 1 => by rw [List.replicate_succ, cntM, cntM_replicate k, if_pos rfl]; omega
theorem cntM_le : ∀ m : List Int, cntM m ≤ m.length
 | [] => Nat.le_refl _
 | x :: t => by have := cntM_le t; simp only [cntM, List.length_cons]; split <;> omega
theorem cntM_pos {m : List Int} (h : 0 < m.length) (h0 : rd m 0 = -1) : 1 ≤ cntM m := by
 cases m with
 | nil => exact absurd h (by simp)
 | cons x t =>
  have hx : x = -1 := by simpa [rd] using h0
  simp only [cntM, if_pos hx]; omega
theorem tracks_at {fr : Int → Int} {m : Nat} : ∀ (N v : Nat), v < m → ∃ x, (Go.Proofs.YtdiaedecnfbgdaaW.Mine.trAll fr m N)[v]? = some x ∧ ∀ r, (0 ≤ r ∧ r < (N : Int) ∧ (fr r).toNat = v) ↔ r ∈ x
 | 0, v, h => ⟨[], by simp [Go.Proofs.YtdiaedecnfbgdaaW.Mine.trAll, h], fun r => ⟨fun hr => by omega, fun hr => by cases hr⟩⟩
 | N + 1, v, h => by
  obtain ⟨x, hx, hr⟩ := tracks_at (fr := fr) (m := m) N v h
  have hl := Go.Proofs.YtdiaedecnfbgdaaW.Mine.trAll_length fr m N
  simp only [Go.Proofs.YtdiaedecnfbgdaaW.Mine.trAll, Go.Proofs.YtdiaedecnfbgdaaW.Mine.trAdd]
  by_cases c : (fr (N : Int)).toNat = v
  ·rw [c]
   have e : (Go.Proofs.YtdiaedecnfbgdaaW.Mine.trAll fr m N).getD v [] = x := by rw [List.getD_eq_getElem?_getD, hx]; rfl
   refine ⟨x ++ [(N : Int)], by rw [List.getElem?_set_self (by omega), e], fun r => ?_⟩
   rw [List.mem_append, List.mem_singleton, ← hr r]
   constructor
   ·intro h1
    by_cases c2 : r = (N : Int)
    ·exact .inr c2
    ·exact .inl ⟨h1.1, by omega, h1.2.2⟩
   ·rintro (h1 | rfl)
    ·exact ⟨h1.1, by omega, h1.2.2⟩
    ·exact ⟨by omega, by omega, c⟩
  ·refine ⟨x, by rw [List.getElem?_set_ne c]; exact hx, fun r => ?_⟩
   rw [← hr r]
   constructor
   ·intro h1
    refine ⟨h1.1, ?_, h1.2.2⟩
    by_cases c2 : r = (N : Int)
    ·subst c2; exact absurd h1.2.2 c
    ·omega
   ·intro h1
    exact ⟨h1.1, by omega, h1.2.2⟩
structure IsUp (n s : Int) (l : List S30) (room : List Int) (least : Int) (up : List Int) : Prop where
 len : (up.length : Int) = n + 1
 src : rd up s = 0
 rng : ∀ v, 0 ≤ v → v ≤ n → rd up v = -1 ∨ 0 ≤ rd up v ∧ rd up v < n
 zero : ∀ v, 0 ≤ v → v ≤ n → rd up v = 0 → v = s
 none0 : rd up 0 = -1
 step : ∀ r, InR l r → least ≤ rd room r → 0 ≤ rd up (fromOf l r) → 0 ≤ rd up (toOf l r) ∧ rd up (toOf l r) ≤ rd up (fromOf l r) + 1
 pred : ∀ v, 0 ≤ v → v ≤ n → 0 < rd up v → ∃ r, InR l r ∧ least ≤ rd room r ∧ toOf l r = v ∧ rd up (fromOf l r) = rd up v - 1
structure Mid (n : Int) (l : List S30) (room : List Int) (least k : Int) (out o nx : List Int) : Prop where
 len : o.length = out.length
 old : ∀ v, 0 ≤ v → v ≤ n → rd o v = rd out v ∨ rd out v = -1 ∧ rd o v = k
 mem : ∀ v, v ∈ nx ↔ 0 ≤ v ∧ v ≤ n ∧ rd o v = k
 cnt : nx.length + cntM o = cntM out
 pred : ∀ v, 0 ≤ v → v ≤ n → rd o v = k → ∃ r, InR l r ∧ least ≤ rd room r ∧ toOf l r = v ∧ rd out (fromOf l r) = k - 1
 none0 : rd o 0 = -1
section
variable {n s least k : Int} {l : List S30} {room out : List Int}
theorem Mid.one {o nx : List Int} (hg : ∀ a ∈ l, GoodArc n a) (hlen : (out.length : Int) = n + 1) (hk : 1 ≤ k) (M : Mid n l room least k out o nx) {r : Int} (hr : InR l r) (hv : rd out (fromOf l r) = k - 1) :
  Mid n l room least k out (lvOne l room least k (o, nx) r).1 (lvOne l room least k (o, nx) r).2 ∧ (least ≤ rd room r → rd (lvOne l room least k (o, nx) r).1 (toOf l r) ≠ -1) ∧ ∀ v, 0 ≤ v → rd o v ≠ -1 → rd (lvOne l room least k (o, nx) r).1 v = rd o v := by
 obtain ⟨_, _, t1, tn⟩ := ends_range hg hr
 have et : lvTo l r = toOf l r := rfl
 have hl := M.len
 unfold lvOne
 rw [et]
 by_cases c : least ≤ rd room r ∧ rd o (toOf l r) = -1
 ·rw [if_pos c]
  have hs : ∀ u, 0 ≤ u → rd (o.set (toOf l r).toNat k) u = if toOf l r = u then k else rd o u := fun u hu => rd_set (by omega) (by omega) hu
  have hold : rd out (toOf l r) = -1 := by
   rcases M.old (toOf l r) (by omega) tn with h | h
   ·rw [← h]; exact c.2
   ·exact h.1
  have hil : (toOf l r).toNat < o.length := by omega
  have hget : o[(toOf l r).toNat] = -1 := by
   have h := rd_get (f := o) hil
   rw [Int.toNat_of_nonneg (by omega)] at h
   rw [← h]; exact c.2
  refine ⟨⟨by rw [List.length_set]; exact hl, fun v v0 vn => ?_, fun v => ?_, ?_, fun v v0 vn h => ?_, ?_⟩, fun _ => ?_, fun v v0 h => ?_⟩
  ·show rd (o.set (toOf l r).toNat k) v = rd out v ∨ rd out v = -1 ∧ rd (o.set (toOf l r).toNat k) v = k
   rw [hs v v0]
   by_cases e : toOf l r = v
   ·rw [if_pos e, ← e]; exact .inr ⟨hold, rfl⟩
   ·rw [if_neg e]; exact M.old v v0 vn
  ·show v ∈ nx ++ [toOf l r] ↔ 0 ≤ v ∧ v ≤ n ∧ rd (o.set (toOf l r).toNat k) v = k
   rw [List.mem_append, List.mem_singleton, M.mem v]
   constructor
   ·rintro (⟨v0, vn, h⟩ | rfl)
    ·refine ⟨v0, vn, ?_⟩
     rw [hs v v0]
     split
     ·rfl
     ·exact h
    ·refine ⟨by omega, tn, ?_⟩
     rw [hs _ (by omega), if_pos rfl]
   ·rintro ⟨v0, vn, h⟩
    rw [hs v v0] at h
    by_cases e : toOf l r = v
    ·exact .inr e.symm
    ·rw [if_neg e] at h
     exact .inl ⟨v0, vn, h⟩
  ·show (nx ++ [toOf l r]).length + cntM (o.set (toOf l r).toNat k) = cntM out
   have h1 := cntM_set (x := k) (by omega) hil hget
   have h2 := M.cnt
   rw [List.length_append, List.length_singleton]
   omega
  ·have h : rd (o.set (toOf l r).toNat k) v = k := h
   rw [hs v v0] at h
   by_cases e : toOf l r = v
   ·exact ⟨r, hr, c.1, e, hv⟩
   ·rw [if_neg e] at h
    exact M.pred v v0 vn h
  ·show rd (o.set (toOf l r).toNat k) 0 = -1
   rw [hs 0 (by omega), if_neg (by omega)]
   exact M.none0
  ·show rd (o.set (toOf l r).toNat k) (toOf l r) ≠ -1
   rw [hs _ (by omega), if_pos rfl]
   omega
  ·show rd (o.set (toOf l r).toNat k) v = rd o v
   rw [hs v v0, if_neg]
   intro e
   rw [← e] at h
   exact h c.2
 ·rw [if_neg c]
  exact ⟨M, fun h e => c ⟨h, e⟩, fun _ _ _ => rfl⟩
theorem Mid.scan (hg : ∀ a ∈ l, GoodArc n a) (hlen : (out.length : Int) = n + 1) (hk : 1 ≤ k) : ∀ (rs : List Int) {o nx : List Int}, Mid n l room least k out o nx → (∀ r ∈ rs, InR l r ∧ rd out (fromOf l r) = k - 1) →
  Mid n l room least k out (lvScan l room least k (o, nx) rs).1 (lvScan l room least k (o, nx) rs).2 ∧ (∀ r ∈ rs, least ≤ rd room r → rd (lvScan l room least k (o, nx) rs).1 (toOf l r) ≠ -1) ∧ ∀ v, 0 ≤ v → rd o v ≠ -1 → rd (lvScan l room least k (o, nx) rs).1 v = rd o v
 | [], o, nx, M, _ => ⟨M, fun r hr => (by cases hr), fun _ _ _ => rfl⟩
 | r :: rs, o, nx, M, h => by
  obtain ⟨hr, hv⟩ := h r List.mem_cons_self
  obtain ⟨M1, h1, h2⟩ := M.one hg hlen hk hr hv
  obtain ⟨M2, h3, h4⟩ := Mid.scan hg hlen hk rs M1 (fun q hq => h q (List.mem_cons_of_mem _ hq))
  obtain ⟨_, _, t1, tn⟩ := ends_range hg hr
  rw [lvScan_cons]
  refine ⟨M2, fun q hq hroom => ?_, fun v v0 hv => ?_⟩
  ·rcases List.mem_cons.1 hq with rfl | hq
   ·rw [h4 _ (by omega) (h1 hroom)]
    exact h1 hroom
   ·exact h3 q hq hroom
  ·have e := h2 v v0 hv
   rw [h4 v v0 (by rw [e]; exact hv), e]
theorem Mid.row {ts : List (List Int)} (hg : ∀ a ∈ l, GoodArc n a) (hlen : (out.length : Int) = n + 1) (hk : 1 ≤ k) (hts : ∀ v, 0 ≤ v → v ≤ n → ∀ r, r ∈ ts.getD v.toNat [] ↔ InR l r ∧ fromOf l r = v) :
  ∀ (vs : List Int) {o nx : List Int}, Mid n l room least k out o nx → (∀ v ∈ vs, 0 ≤ v ∧ v ≤ n ∧ rd out v = k - 1) →
  Mid n l room least k out (lvRow l room ts least k (o, nx) vs).1 (lvRow l room ts least k (o, nx) vs).2 ∧ (∀ r, InR l r → fromOf l r ∈ vs → least ≤ rd room r → rd (lvRow l room ts least k (o, nx) vs).1 (toOf l r) ≠ -1) ∧ ∀ v, 0 ≤ v → rd o v ≠ -1 → rd (lvRow l room ts least k (o, nx) vs).1 v = rd o v
 | [], o, nx, M, _ => ⟨M, fun r _ hr => (by cases hr), fun _ _ _ => rfl⟩
 | v :: vs, o, nx, M, h => by
  obtain ⟨v0, vn, hv⟩ := h v List.mem_cons_self
  obtain ⟨M1, h1, h2⟩ := Mid.scan hg hlen hk (ts.getD v.toNat []) M (fun r hr => by
   obtain ⟨a, b⟩ := (hts v v0 vn r).1 hr
   exact ⟨a, by rw [b]; exact hv⟩)
  obtain ⟨M2, h3, h4⟩ := Mid.row hg hlen hk hts vs M1 (fun q hq => h q (List.mem_cons_of_mem _ hq))
  rw [lvRow_cons]
  refine ⟨M2, fun q hq hm hroom => ?_, fun u u0 hu => ?_⟩
  ·obtain ⟨_, _, t1, tn⟩ := ends_range hg hq
   rcases List.mem_cons.1 hm with e | hm
   ·have h5 := h1 q ((hts v v0 vn q).2 ⟨hq, e⟩) hroom
    rw [h4 _ (by omega) h5]
    exact h5
   ·exact h3 q hq hm hroom
  ·have e := h2 u u0 hu
   rw [h4 u u0 (by rw [e]; exact hu), e]
structure Inv (n s : Int) (l : List S30) (room : List Int) (least k : Int) (out next : List Int) : Prop where
 k1 : 1 ≤ k
 kn : k ≤ n + 1
 few : next ≠ [] → k + cntM out ≤ n + 1
 len : (out.length : Int) = n + 1
 src : rd out s = 0
 rng : ∀ v, 0 ≤ v → v ≤ n → rd out v = -1 ∨ 0 ≤ rd out v ∧ rd out v ≤ k - 1 ∧ rd out v < n
 mem : ∀ v, v ∈ next ↔ 0 ≤ v ∧ v ≤ n ∧ rd out v = k - 1
 zero : ∀ v, 0 ≤ v → v ≤ n → rd out v = 0 → v = s
 none0 : rd out 0 = -1
 step : ∀ r, InR l r → least ≤ rd room r → 0 ≤ rd out (fromOf l r) → rd out (fromOf l r) < k - 1 → 0 ≤ rd out (toOf l r) ∧ rd out (toOf l r) ≤ rd out (fromOf l r) + 1
 pred : ∀ v, 0 ≤ v → v ≤ n → 0 < rd out v → ∃ r, InR l r ∧ least ≤ rd room r ∧ toOf l r = v ∧ rd out (fromOf l r) = rd out v - 1
theorem turns_ev {ts : List (List Int)} (hg : ∀ a ∈ l, GoodArc n a) (hn : n ≤ 500) (hts : ∀ v, 0 ≤ v → v ≤ n → ∀ r, r ∈ ts.getD v.toNat [] ↔ InR l r ∧ fromOf l r = v) (d : Nat) :
  ∀ (out next : List Int) (k : Int), 2 * cntM out + (if next = [] then 0 else 1) ≤ d → Inv n s l room least k out next → ∃ up, Ev (fun f => lvTurn l room ts least f out next k) up ∧ IsUp n s l room least up := by
 induction d with
 | zero =>
  intro out next k hd I
  have h1 := cntM_pos (m := out) (by have := I.len; have := I.k1; have := I.kn; omega) I.none0
  omega
 | succ d ih =>
  intro out next k hd I
  have hk1 := I.k1
  have hkn := I.kn
  have hc1 := cntM_pos (m := out) (by have := I.len; omega) I.none0
  by_cases hz : next = []
  ·subst hz
   refine ⟨out, Ev.step (f := fun _ => some out) (fun f => ?_) (Ev.now _), ⟨I.len, I.src, fun v v0 vn => ?_, I.zero, I.none0, fun r hr hroom h => ?_, I.pred⟩⟩
   ·simp [lvTurn]
   ·rcases I.rng v v0 vn with h | h
    ·exact .inl h
    ·exact .inr ⟨h.1, h.2.2⟩
   ·obtain ⟨f1, fn, _, _⟩ := ends_range hg hr
    have hne : rd out (fromOf l r) ≠ k - 1 := fun e => by
     have := (I.mem (fromOf l r)).2 ⟨by omega, fn, e⟩
     cases this
    have := I.rng (fromOf l r) (by omega) fn
    exact I.step r hr hroom h (by omega)
  ·have M0 : Mid n l room least k out out [] := ⟨rfl, fun v _ _ => .inl rfl, fun v => ⟨fun h => by (cases h), fun ⟨v0, vn, h⟩ => by have := I.rng v v0 vn; omega⟩, by simp, fun v v0 vn h => by have := I.rng v v0 vn; omega, I.none0⟩
   obtain ⟨M, hset, hkeep⟩ := Mid.row (ts := ts) hg I.len hk1 hts next M0 (fun v hv => (I.mem v).1 hv)
   obtain ⟨o, ho⟩ : ∃ o, (lvRow l room ts least k (out, []) next).1 = o := ⟨_, rfl⟩
   obtain ⟨nx, hnx⟩ : ∃ nx, (lvRow l room ts least k (out, []) next).2 = nx := ⟨_, rfl⟩
   rw [ho] at M hset hkeep
   rw [hnx] at M
   have hfew := I.few hz
   have hcnt := M.cnt
   have hcl := cntM_le out
   have hlen := I.len
   have I2 : Inv n s l room least (k + 1) o nx := by
    refine ⟨by omega, by omega, fun hne => ?_, by rw [M.len]; exact hlen, ?_, fun v v0 vn => ?_, fun v => ?_, fun v v0 vn h => ?_, M.none0, fun r hr hroom h hlt => ?_, fun v v0 vn h => ?_⟩
    ·have : 0 < nx.length := List.length_pos_iff.2 hne
     omega
    ·have hs := (I.mem s)
     by_cases s0 : 0 ≤ s
     ·rw [hkeep s s0 (by rw [I.src]; decide), I.src]
     ·have h1 := I.src
      unfold rd at h1 ⊢
      have e : s.toNat = 0 := by omega
      have h2 := I.none0
      unfold rd at h2
      rw [e] at h1
      simp at h1 h2
      omega
    ·rcases M.old v v0 vn with e | ⟨_, e⟩
     ·rw [e]
      have := I.rng v v0 vn
      omega
     ·rw [e]
      have : 0 < nx.length := List.length_pos_iff.2 (fun e2 => by have := (M.mem v).2 ⟨v0, vn, e⟩; rw [e2] at this; cases this)
      have hc2 := cntM_pos (m := o) (by have := M.len; omega) M.none0
      omega
    ·rw [M.mem v, show k + 1 - 1 = k by omega]
    ·rcases M.old v v0 vn with e | ⟨_, e⟩
     ·exact I.zero v v0 vn (by rw [← e]; exact h)
     ·omega
    ·obtain ⟨f1, fn, t1, tn⟩ := ends_range hg hr
     rcases M.old (fromOf l r) (by omega) fn with e | ⟨_, e⟩
     ·rw [e] at h hlt ⊢
      by_cases c : rd out (fromOf l r) = k - 1
      ·have h5 := hset r hr ((I.mem _).2 ⟨by omega, fn, c⟩) hroom
       rcases M.old (toOf l r) (by omega) tn with e2 | ⟨_, e2⟩
       ·have := I.rng (toOf l r) (by omega) tn
        rw [e2] at h5 ⊢
        omega
       ·rw [e2]; omega
      ·have h6 := I.step r hr hroom h (by omega)
       rw [hkeep (toOf l r) (by omega) (by omega)]
       exact h6
     ·omega
    ·rcases M.old v v0 vn with e | ⟨_, e⟩
     ·rw [e] at h ⊢
      obtain ⟨r, hr, hroom, ht, hf⟩ := I.pred v v0 vn h
      obtain ⟨f1, fn, _, _⟩ := ends_range hg hr
      exact ⟨r, hr, hroom, ht, by rw [hkeep (fromOf l r) (by omega) (by omega)]; exact hf⟩
     ·obtain ⟨r, hr, hroom, ht, hf⟩ := M.pred v v0 vn e
      obtain ⟨f1, fn, _, _⟩ := ends_range hg hr
      refine ⟨r, hr, hroom, ht, ?_⟩
      rw [hkeep (fromOf l r) (by omega) (by omega), hf, e]
   have hdd : 2 * cntM o + (if nx = [] then 0 else 1) ≤ d := by
    rw [if_neg hz] at hd
    by_cases c : nx = []
    ·rw [if_pos c]
     omega
    ·have : 0 < nx.length := List.length_pos_iff.2 c
     rw [if_neg c]
     omega
   obtain ⟨up, hup, U⟩ := ih o nx (k + 1) hdd I2
   refine ⟨up, Ev.step (fun f => ?_) hup, U⟩
   simp only [lvTurn]
   rw [if_neg (fun e => hz (List.length_eq_zero_iff.1 e)), hnx, ho, if_pos (by omega), wrap_id (by omega) (by omega)]
end
theorem levels_ev {n s t least : Int} {l : List S30} {f : List Int} (R : Right n s t l) (F : IsFlow n s t l f) (hl : 1 ≤ least) :
  ∃ up, Ev (fun k => level_Levels.f k n s t l f least) (up, 0) ∧ IsUp n s l (roomOf l f) least up := by
 have h1 := R.n2
 have h2 := R.n500
 have h3 := R.s1
 have h4 := R.sn
 have h5 := R.len
 have hlen : (roomOf l f).length = 2 * l.length := roomOf_len F.1.len
 have hlvl : ((List.replicate (n + 1).toNat (-1)).length : Int) = n + 1 := by rw [List.length_replicate]; omega
 have hrep : ∀ v, 0 ≤ v → v ≤ n → rd (List.replicate (n + 1).toNat (-1)) v = -1 := fun v v0 vn => by
  have : v.toNat < (n + 1).toNat := by omega
  simp [rd, this]
 have hrs : ∀ v, 0 ≤ v → rd ((List.replicate (n + 1).toNat (-1)).set s.toNat 0) v = if s = v then 0 else rd (List.replicate (n + 1).toNat (-1)) v := fun v v0 => rd_set (by omega) (by omega) v0
 have hcn : cntM ((List.replicate (n + 1).toNat (-1)).set s.toNat 0) + 1 = (n + 1).toNat := by
  have := cntM_set (x := 0) (by decide) (m := List.replicate (n + 1).toNat (-1)) (i := s.toNat) (by rw [List.length_replicate]; omega) (by simp)
  rw [cntM_replicate] at this
  exact this
 have hts : ∀ v, 0 ≤ v → v ≤ n → ∀ r, r ∈ (Go.Proofs.YtdiaedecnfbgdaaW.Mine.trAll (lvFrom l) (n + 1).toNat (roomOf l f).length).getD v.toNat [] ↔ InR l r ∧ fromOf l r = v := fun v v0 vn r => by
  obtain ⟨x, hx, hr⟩ := tracks_at (fr := lvFrom l) (m := (n + 1).toNat) (roomOf l f).length v.toNat (by omega)
  rw [List.getD_eq_getElem?_getD, hx]
  show r ∈ x ↔ _
  rw [← hr r]
  have e : lvFrom l r = fromOf l r := rfl
  rw [e, hlen]
  constructor
  ·rintro ⟨a, b, c⟩
   have hi : InR l r := ⟨a, by omega⟩
   have := ends_range R.arcs hi
   exact ⟨hi, by omega⟩
  ·rintro ⟨a, b⟩
   have := a.1
   have := a.2
   exact ⟨a.1, by omega, by omega⟩
 have I : Inv n s l (roomOf l f) least 1 ((List.replicate (n + 1).toNat (-1)).set s.toNat 0) [s] := by
  refine ⟨by omega, by omega, fun _ => by omega, by rw [List.length_set]; exact hlvl, by rw [hrs s (by omega), if_pos rfl], fun v v0 vn => ?_, fun v => ?_, fun v v0 vn h => ?_, by rw [hrs 0 (by omega), if_neg (by omega)]; exact hrep 0 (by omega) (by omega), fun r hr _ h hlt => by omega, fun v v0 vn h => ?_⟩
  ·rw [hrs v v0]
   split
   ·exact .inr ⟨by omega, by omega, by omega⟩
   ·exact .inl (hrep v v0 vn)
  ·rw [List.mem_singleton]
   constructor
   ·rintro rfl
    exact ⟨by omega, h4, by rw [hrs _ (by omega), if_pos rfl]; rfl⟩
   ·rintro ⟨v0, vn, h⟩
    rw [hrs v v0] at h
    by_cases c : s = v
    ·exact c.symm
    ·rw [if_neg c, hrep v v0 vn] at h
     omega
  ·rw [hrs v v0] at h
   by_cases c : s = v
   ·exact c.symm
   ·rw [if_neg c, hrep v v0 vn] at h
    omega
  ·rw [hrs v v0] at h
   by_cases c : s = v
   ·rw [if_pos c] at h; omega
   ·rw [if_neg c, hrep v v0 vn] at h
    omega
 obtain ⟨up, hup, U⟩ := turns_ev R.arcs h2 hts _ _ _ _ (Nat.le_refl _) I
 refine ⟨up, ?_, U⟩
 have hfit : lvFit n s l (roomOf l f) = true := by
  simp only [lvFit, Bool.and_eq_true, decide_eq_true_eq, List.all_eq_true]
  refine ⟨⟨by omega, by omega, by omega, h4, h5, hlen⟩, fun a ha => ?_⟩
  obtain ⟨g0, g1, g2, g3, _⟩ := R.arcs a ha
  omega
 unfold level_Levels.f
 refine Ev.bind (room_ev R F) ?_
 simp only [if_true, if_neg (show ¬ least < 1 by omega), hfit]
 exact Ev.bind hup (Ev.now _)
def LdC (l : List S30) (room : List Int) (least : Int) (up : List Int) (r : Int) : Prop := least ≤ rd room r ∧ rd up (fromOf l r) ≠ -1 ∧ rd up (toOf l r) = rd up (fromOf l r) + 1
def ld (l : List S30) (room : List Int) (least : Int) (up : List Int) : Nat → List Int
 | 0 => []
 | i + 1 => ld l room least up i ++ (if least ≤ rd room (i : Int) ∧ rd up (fromOf l (i : Int)) ≠ -1 ∧ rd up (toOf l (i : Int)) = rd up (fromOf l (i : Int)) + 1 then [(i : Int)] else [])
theorem ld_mem {l : List S30} {room up : List Int} {least r : Int} : ∀ m : Nat, r ∈ ld l room least up m ↔ 0 ≤ r ∧ r < (m : Int) ∧ LdC l room least up r
 | 0 => ⟨fun h => by (cases h), fun h => by omega⟩
 | m + 1 => by
  rw [ld, List.mem_append, ld_mem m]
  constructor
  ·rintro (h | h)
   ·exact ⟨h.1, by omega, h.2.2⟩
   ·split at h
    ·obtain rfl := List.mem_singleton.1 h
     exact ⟨by omega, by omega, by assumption⟩
    ·cases h
  ·rintro ⟨h0, h1, h2⟩
   by_cases c : r = (m : Int)
   ·subst c
    right
    rw [if_pos (show least ≤ rd room (m : Int) ∧ rd up (fromOf l (m : Int)) ≠ -1 ∧ rd up (toOf l (m : Int)) = rd up (fromOf l (m : Int)) + 1 from h2)]
    exact List.mem_singleton.2 rfl
   ·exact .inl ⟨h0, by omega, h2⟩
theorem ld_len {l : List S30} {room up : List Int} {least : Int} : ∀ m : Nat, (ld l room least up m).length ≤ m
 | 0 => Nat.le_refl _
 | m + 1 => by
  have := ld_len (l := l) (room := room) (up := up) (least := least) m
  rw [ld, List.length_append]
  split <;> simp <;> omega
section
variable {n s t least : Int} {l : List S30} {f up : List Int}
theorem leads_loop (R : Right n s t l) (F : IsFlow n s t l f) (U : IsUp n s l (roomOf l f) least up) (d : Nat) : ∀ i : Nat, i + d = (roomOf l f).length →
  Ev (fun k => level_Leads.l0 k least up (ld l (roomOf l f) least up i) (roomOf l f) ((roomOf l f).length : Int) (i : Int) n s t l) (ld l (roomOf l f) least up (roomOf l f).length, 0) := by
 have hlen : (roomOf l f).length = 2 * l.length := roomOf_len F.1.len
 have h5 := R.len
 have hn := R.n500
 induction d with
 | zero =>
  intro i hi
  have e : i = (roomOf l f).length := by omega
  subst e
  refine Ev.step (f := fun _ => some (ld l (roomOf l f) least up (roomOf l f).length, 0)) (fun k => ?_) (Ev.now _)
  simp only [level_Leads.l0]
  rw [if_neg (by omega)]
 | succ d ih =>
  intro i hi
  have hr : InR l (i : Int) := ⟨by omega, by omega⟩
  obtain ⟨f1, fn, t1, tn⟩ := ends_range R.arcs hr
  have hul := U.len
  have hll := ld_len (l := l) (room := roomOf l f) (up := up) (least := least) i
  have hnext := ih (i + 1) (by omega)
  refine Ev.step (f := ?g) (fun k => ?h) ?e
  case h =>
   simp only [level_Leads.l0]
   rw [if_pos (by omega), if_pos (by omega), if_pos (by omega)]
  case e =>
   refine Ev.bind (ends_ev hr h5) ?_
   simp only
   have hw : wrap64 ((i : Int) + 1) = ((i + 1 : Nat) : Int) := wrap_succ (by omega)
   rw [hw]
   by_cases c : least ≤ rd (roomOf l f) (i : Int) ∧ rd up (fromOf l (i : Int)) ≠ -1 ∧ rd up (toOf l (i : Int)) = rd up (fromOf l (i : Int)) + 1
   ·have e : ld l (roomOf l f) least up (i + 1) = ld l (roomOf l f) least up i ++ [(i : Int)] := by rw [ld, if_pos c]
    have hrg := U.rng (fromOf l (i : Int)) (by omega) fn
    have hw2 : wrap64 (rd up (fromOf l (i : Int)) + 1) = rd up (fromOf l (i : Int)) + 1 := wrap_id (by omega) (by omega)
    refine Ev.congr (fun k => ?_) hnext
    rw [if_pos c.1, if_pos (by omega), if_pos (by omega), if_neg c.2.1, if_pos (by omega), if_pos (by omega), if_pos (by rw [hw2]; exact c.2.2), if_pos (by omega), e]
   ·have e : ld l (roomOf l f) least up (i + 1) = ld l (roomOf l f) least up i := by rw [ld, if_neg c, List.append_nil]
    refine Ev.congr (fun k => ?_) hnext
    rw [e]
    by_cases c1 : least ≤ rd (roomOf l f) (i : Int)
    ·rw [if_pos c1, if_pos (by omega), if_pos (by omega)]
     by_cases c2 : rd up (fromOf l (i : Int)) = -1
     ·rw [if_pos c2]
     ·have hrg := U.rng (fromOf l (i : Int)) (by omega) fn
      have hw2 : wrap64 (rd up (fromOf l (i : Int)) + 1) = rd up (fromOf l (i : Int)) + 1 := wrap_id (by omega) (by omega)
      rw [if_neg c2, if_pos (by omega), if_pos (by omega), if_neg (fun h => c ⟨c1, c2, by rw [hw2] at h; exact h⟩)]
    ·rw [if_neg c1]
theorem leads_ev (R : Right n s t l) (F : IsFlow n s t l f) (hup : Ev (fun k => level_Levels.f k n s t l f least) (up, 0)) (U : IsUp n s l (roomOf l f) least up) :
  Ev (fun k => level_Leads.f k n s t l f least) (ld l (roomOf l f) least up (2 * l.length), 0) := by
 have hlen : (roomOf l f).length = 2 * l.length := roomOf_len F.1.len
 unfold level_Leads.f
 refine Ev.bind hup ?_
 simp only [if_true]
 refine Ev.bind (room_ev R F) ?_
 have := leads_loop R F U (roomOf l f).length 0 (by omega)
 rw [← hlen]
 exact this
end
theorem deep_ev {n s t least : Int} {l : List S30} {f up room : List Int} (R : Right n s t l) (hup : Ev (fun k => level_Levels.f k n s t l f least) (up, 0)) (U : IsUp n s l room least up) : Ev (fun k => level_Deep.f k n s t l f least) (rd up t, 0) := by
 have h1 := R.t1
 have h2 := R.tn
 have h3 := U.len
 unfold level_Deep.f
 refine Ev.bind hup ?_
 refine Ev.congr (fun k => ?_) (Ev.now (rd up t, (0 : Int)))
 simp only [if_true]
 rw [if_pos (by omega), if_pos (by omega)]
theorem xor_even_small : ∀ i : Fin 200, Go.bits .xor .i64 (2 * (i.val : Int)) 1 = 2 * (i.val : Int) + 1 := by decide +kernel
theorem xor_even {j : Int} (h0 : 0 ≤ j) (h1 : j < 200) : Go.bits .xor .i64 (2 * j) 1 = 2 * j + 1 := by
 have := xor_even_small ⟨j.toNat, by omega⟩
 simp only at this
 rwa [show ((j.toNat : Nat) : Int) = j by omega] at this
def gd (room : List Int) (least : Int) : Nat → List Int
 | 0 => []
 | i + 1 => gd room least i ++ (if least ≤ rd room (2 * (i : Int)) then [2 * (i : Int)] else [])
theorem gd_mem {room : List Int} {least r : Int} : ∀ m : Nat, r ∈ gd room least m ↔ ∃ j : Int, r = 2 * j ∧ 0 ≤ j ∧ j < (m : Int) ∧ least ≤ rd room r
 | 0 => ⟨fun h => by (cases h), fun ⟨j, h⟩ => by omega⟩
 | m + 1 => by
  rw [gd, List.mem_append, gd_mem m]
  constructor
  ·rintro (⟨j, h⟩ | h)
   ·exact ⟨j, h.1, h.2.1, by omega, h.2.2.2⟩
   ·split at h
    ·obtain rfl := List.mem_singleton.1 h
     exact ⟨m, rfl, by omega, by omega, by assumption⟩
    ·cases h
  ·rintro ⟨j, h0, h1, h2, h3⟩
   by_cases c : j = (m : Int)
   ·subst c
    right
    rw [← h0, if_pos h3]
    exact List.mem_singleton.2 rfl
   ·exact .inl ⟨j, h0, h1, by omega, h3⟩
theorem gd_nodup {room : List Int} {least : Int} : ∀ m : Nat, (gd room least m).Nodup
 | 0 => List.nodup_nil
 | m + 1 => by
  rw [gd]
  refine List.nodup_append.2 ⟨gd_nodup m, ?_, fun a ha b hb e => ?_⟩
  ·split <;> simp
  ·obtain ⟨j, h0, h1, h2, _⟩ := (gd_mem m).1 ha
   split at hb
   ·have := List.mem_singleton.1 hb
    omega
   ·cases hb
theorem gd_len {room : List Int} {least : Int} : ∀ m : Nat, (gd room least m).length ≤ m
 | 0 => Nat.le_refl _
 | m + 1 => by
  have := gd_len (room := room) (least := least) m
  rw [gd, List.length_append]
  split <;> simp <;> omega
structure Bunch (s t : Int) (l : List S30) : Prop where
 arcs : ∀ a ∈ l, a.f0 = s ∧ a.f1 = t ∧ 0 ≤ a.f2 ∧ a.f2 < 100
 st : s = 1 ∧ t = 2 ∨ s = 2 ∧ t = 1
 len : l.length ≤ 80
section
variable {s t least : Int} {l : List S30}
theorem Bunch.good (B : Bunch s t l) : ∀ a ∈ l, GoodArc 2 a := fun a ha => by
 obtain ⟨h0, h1, h2, _⟩ := B.arcs a ha
 have := B.st
 unfold GoodArc
 omega
theorem bunch_sum : ∀ {l : List S30}, (∀ a ∈ l, a.f2 < 100) → sumCap l ≤ 100 * (l.length : Int)
 | [], _ => by simp [sumCap]
 | a :: l, h => by
  have h1 := bunch_sum (fun b hb => h b (List.mem_cons_of_mem _ hb))
  have h2 := h a List.mem_cons_self
  simp only [sumCap, List.length_cons]
  omega
theorem Bunch.right (B : Bunch s t l) : Right 2 s t l := by
 have h1 := B.st
 have h2 := B.len
 have h3 := bunch_sum (fun a ha => (B.arcs a ha).2.2.2)
 exact ⟨by decide, by decide, by omega, by omega, by omega, by omega, by omega, by omega, B.good, by omega⟩
theorem Bunch.ends (B : Bunch s t l) {j : Int} (h0 : 0 ≤ j) (h1 : j < (l.length : Int)) : fromOf l (2 * j) = s ∧ toOf l (2 * j) = t := by
 have hb := B.arcs _ (rdT_mem (l := l) h0 h1)
 unfold fromOf toOf
 rw [if_neg (by omega), if_neg (by omega), show 2 * j / 2 = j by omega]
 exact ⟨hb.1, hb.2.1⟩
theorem Bunch.room (B : Bunch s t l) {j : Int} (h0 : 0 ≤ j) (h1 : j < (l.length : Int)) :
  rd (roomOf l (List.replicate l.length 0)) (2 * j) = (rd_T30 l j).f2 ∧ rd (roomOf l (List.replicate l.length 0)) (2 * j + 1) = 0 := by
 have W : Within l (List.replicate l.length 0) := Within.zeros (fun a ha => (B.arcs a ha).2.2.1)
 obtain ⟨a, b⟩ := roomOf_rd W (fun a ha => by have := (B.arcs a ha).2.2.2; omega) (i := j) h0 h1
 rw [rd_replicate] at a b
 exact ⟨by rw [a]; omega, b⟩
theorem bunch_ld (B : Bunch s t l) (hl : 1 ≤ least) {up : List Int} (U : IsUp 2 s l (roomOf l (List.replicate l.length 0)) least up) : ∀ m : Nat, m ≤ l.length →
  ld l (roomOf l (List.replicate l.length 0)) least up (2 * m) = gd (roomOf l (List.replicate l.length 0)) least m
 | 0, _ => rfl
 | m + 1, h => by
  have ih := bunch_ld B hl U m (by omega)
  obtain ⟨r0, r1⟩ := B.room (j := (m : Int)) (by omega) (by omega)
  obtain ⟨e0, e1⟩ := B.ends (j := (m : Int)) (by omega) (by omega)
  have hst := B.st
  rw [show 2 * (m + 1) = 2 * m + 1 + 1 by omega, ld, ld, gd, ih]
  have c1 : ¬ (least ≤ rd (roomOf l (List.replicate l.length 0)) ((2 * m + 1 : Nat) : Int) ∧ rd up (fromOf l ((2 * m + 1 : Nat) : Int)) ≠ -1 ∧ rd up (toOf l ((2 * m + 1 : Nat) : Int)) = rd up (fromOf l ((2 * m + 1 : Nat) : Int)) + 1) := fun hc => by
   have := hc.1
   rw [show ((2 * m + 1 : Nat) : Int) = 2 * (m : Int) + 1 by omega, r1] at this
   omega
  rw [if_neg c1, List.append_nil, show ((2 * m : Nat) : Int) = 2 * (m : Int) by omega, e0, e1]
  congr 1
  by_cases c : least ≤ rd (roomOf l (List.replicate l.length 0)) (2 * (m : Int))
  ·have q : InR l (2 * (m : Int)) := ⟨by omega, by omega⟩
   have h1 := U.step _ q c (by rw [e0, U.src]; omega)
   rw [e0, e1, U.src] at h1
   have h2 : rd up t ≠ 0 := fun e => by
    have := U.zero t (by omega) (by omega) e
    omega
   rw [if_pos c, if_pos ⟨c, by rw [U.src]; omega, by rw [U.src]; omega⟩]
  ·rw [if_neg c, if_neg (fun hc => c hc.1)]
end
theorem getD_set' {α : Type} {xs : List α} {i j : Nat} {x d : α} (h : i < xs.length) : (xs.set i x).getD j d = if i = j then x else xs.getD j d := by
 by_cases c : i = j
 ·subst c
  rw [if_pos rfl, List.getD_eq_getElem?_getD, List.getElem?_set_self h]
  rfl
 ·rw [if_neg c, List.getD_eq_getElem?_getD, List.getElem?_set_ne c, ← List.getD_eq_getElem?_getD]
theorem rows_fold {fr : Int → Int} {s : Int} : ∀ (L : List Int) (ts : List (List Int)), s.toNat < ts.length → (∀ r ∈ L, fr r = s) →
  (L.foldl (Go.Proofs.YtdiaedecnfbgdaaW.Mine.trAdd fr) ts).length = ts.length ∧ (L.foldl (Go.Proofs.YtdiaedecnfbgdaaW.Mine.trAdd fr) ts).getD s.toNat [] = ts.getD s.toNat [] ++ L
 | [], ts, _, _ => ⟨rfl, by simp⟩
 | r :: L, ts, hs, h => by
  have e := h r List.mem_cons_self
  have h2 := rows_fold (fr := fr) (s := s) L (Go.Proofs.YtdiaedecnfbgdaaW.Mine.trAdd fr ts r) (by unfold Go.Proofs.YtdiaedecnfbgdaaW.Mine.trAdd; rw [List.length_set]; exact hs) (fun q hq => h q (List.mem_cons_of_mem _ hq))
  rw [List.foldl_cons]
  refine ⟨by rw [h2.1]; unfold Go.Proofs.YtdiaedecnfbgdaaW.Mine.trAdd; rw [List.length_set], ?_⟩
  rw [h2.2]
  unfold Go.Proofs.YtdiaedecnfbgdaaW.Mine.trAdd
  rw [e, getD_set' hs, if_pos rfl, List.append_assoc]
  rfl
section
variable {s t least : Int} {l : List S30}
def Left (room : List Int) (s least : Int) (ts : List (List Int)) (rest : List Int) : Prop :=
 s.toNat < ts.length ∧ (ts.getD s.toNat [] = rest ∨ ∃ r, ts.getD s.toNat [] = r :: rest ∧ rd room r < least)
theorem plEnd_nil : plEnd l s [] = s := rfl
theorem plEnd_one (r : Int) : plEnd l s [r] = lvTo l r := rfl
theorem next_head {room : List Int} {r : Int} {rest : List Int} {ts : List (List Int)} (hst : s ≠ t) (hs : s.toNat < ts.length) (e : ts.getD s.toNat [] = r :: rest) (hr : least ≤ rd room r) (ht : lvTo l r = t) (K : Nat) :
  plNext l s t least room (K + 2) ts [] = some (true, ts, [r]) := by
 rw [plNext, plEnd_nil, if_neg hst, e]
 simp only [if_pos hr, List.length_nil, Nat.zero_le, if_true, List.nil_append]
 rw [plNext, plEnd_one, if_pos ht]
theorem next_pop {room : List Int} {r : Int} {rest : List Int} {ts : List (List Int)} (hst : s ≠ t) (e : ts.getD s.toNat [] = r :: rest) (hr : rd room r < least) (K : Nat) :
  plNext l s t least room (K + 1) ts [] = plNext l s t least room K (ts.set s.toNat rest) [] := by
 rw [plNext, plEnd_nil, if_neg hst, e]
 simp only [if_neg (show ¬ least ≤ rd room r by omega)]
theorem next_none {room : List Int} {ts : List (List Int)} (hst : s ≠ t) (e : ts.getD s.toNat [] = []) (K : Nat) :
  plNext l s t least room (K + 1) ts [] = some (false, ts, []) := by
 rw [plNext, plEnd_nil, if_neg hst, e]
 simp only [List.length_nil, if_true]
theorem next_left_cons {room : List Int} {r : Int} {rest : List Int} {ts : List (List Int)} (hst : s ≠ t) (h : Left room s least ts (r :: rest)) (hr : least ≤ rd room r) (ht : lvTo l r = t) :
  ∃ ts', (∀ K, 3 ≤ K → plNext l s t least room K ts [] = some (true, ts', [r])) ∧ s.toNat < ts'.length ∧ ts'.getD s.toNat [] = r :: rest := by
 obtain ⟨hs, h | ⟨q, h, hq⟩⟩ := h
 ·refine ⟨ts, fun K hK => ?_, hs, h⟩
  obtain ⟨K, rfl⟩ : ∃ k, K = k + 3 := ⟨K - 3, by omega⟩
  exact next_head hst hs h hr ht _
 ·have hs2 : s.toNat < (ts.set s.toNat (r :: rest)).length := by rw [List.length_set]; exact hs
  have e2 : (ts.set s.toNat (r :: rest)).getD s.toNat [] = r :: rest := by rw [getD_set' hs, if_pos rfl]
  refine ⟨_, fun K hK => ?_, hs2, e2⟩
  obtain ⟨K, rfl⟩ : ∃ k, K = k + 3 := ⟨K - 3, by omega⟩
  rw [next_pop hst h hq]
  exact next_head hst hs2 e2 hr ht _
theorem next_left_nil {room : List Int} {ts : List (List Int)} (hst : s ≠ t) (h : Left room s least ts []) (K : Nat) (hK : 2 ≤ K) :
  ∃ ts', plNext l s t least room K ts [] = some (false, ts', []) := by
 obtain ⟨K, rfl⟩ : ∃ k, K = k + 2 := ⟨K - 2, by omega⟩
 obtain ⟨hs, h | ⟨q, h, hq⟩⟩ := h
 ·exact ⟨ts, next_none hst h _⟩
 ·have e2 : (ts.set s.toNat []).getD s.toNat [] = [] := by rw [getD_set' hs, if_pos rfl]
  exact ⟨_, by rw [next_pop hst h hq]; exact next_none hst e2 _⟩
theorem push_one {room : List Int} {m : Nat} {j c : Int} (hlen : room.length = 2 * m) (hm : m ≤ 80) (h0 : 0 ≤ j) (h1 : j < (m : Int)) (hr : rd room (2 * j) = c) (hr1 : rd room (2 * j + 1) = 0) (hc : 0 ≤ c ∧ c < 100) (hl : 1 ≤ least) :
  plPush room least [2 * j] = some (c, (room.set (2 * j).toNat 0).set (2 * j + 1).toNat c, []) := by
 have ex := xor_even h0 (show j < 200 by omega)
 have w0 : wrap64 (c - c) = 0 := by rw [wrap_id (by omega) (by omega)]; omega
 have w1 : wrap64 (0 + c) = c := by rw [wrap_id (by omega) (by omega)]; omega
 have hg : rd (room.set (2 * j).toNat 0) (2 * j + 1) = 0 := by
  rw [rd_set (by omega) (by omega) (by omega), if_neg (by omega)]
  exact hr1
 have hg2 : rd ((room.set (2 * j).toNat 0).set (2 * j + 1).toNat c) (2 * j) = 0 := by
  rw [rd_set (by omega) (by rw [List.length_set]; omega) (by omega), if_neg (by omega), rd_set (by omega) (by omega) (by omega), if_pos rfl]
 have h3 : rd [2 * j] 0 = 2 * j := rfl
 have hmost : plMost room [2 * j] c = c := by
  simp only [plMost, hr, if_neg (Int.lt_irrefl c)]
 have hpour : plPour c [2 * j] room = (room.set (2 * j).toNat 0).set (2 * j + 1).toNat c := by
  simp only [plPour, hr, ex, w0, hg, w1]
 have hix : plIx ((room.set (2 * j).toNat 0).set (2 * j + 1).toNat c) least [2 * j] 0 = 0 := by
  simp only [plIx, hg2, if_pos (show (0 : Int) < least by omega)]
 unfold plPush
 rw [if_neg (by simp), if_pos (by simp only [List.all_cons, List.all_nil, Bool.and_true, ex]; exact decide_eq_true (by omega)), h3, hr, hmost, hpour, hix]
 rfl
theorem run_left (B : Bunch s t l) (hl : 1 ≤ least) : ∀ (rest room : List Int) (ts : List (List Int)) (ws : List S61), room.length = 2 * l.length → Left room s least ts rest → rest.Nodup → ws.length + rest.length ≤ 100 →
  (∀ r ∈ rest, ∃ j : Int, r = 2 * j ∧ 0 ≤ j ∧ j < (l.length : Int) ∧ least ≤ rd room r ∧ rd room r < 100 ∧ rd room (r + 1) = 0) →
  ∃ room', (∀ K f, 3 ≤ K → rest.length + 1 ≤ f → plRun l s t least K f room ts [] ws = some (room', ws ++ rest.map fun r => ⟨[r], rd room r⟩)) ∧
   (∀ r ∈ rest, rd room' (r + 1) = rd room r) ∧ ∀ q, 0 ≤ q → (∀ r ∈ rest, q ≠ r ∧ q ≠ r + 1) → rd room' q = rd room q
 | [], room, ts, ws, hlen, hL, _, _, _ => by
  have hst : s ≠ t := by have := B.st; omega
  refine ⟨room, fun K f hK hf => ?_, fun r hr => (by cases hr), fun _ _ _ => rfl⟩
  obtain ⟨f, rfl⟩ : ∃ k, f = k + 1 := ⟨f - 1, by have := hf; simp only [List.length_nil] at this; omega⟩
  obtain ⟨ts', e⟩ := next_left_nil (l := l) hst hL K (by omega)
  rw [plRun, e]
  simp
 | r :: rest, room, ts, ws, hlen, hL, hn, hw, hr => by
  have hst : s ≠ t := by have := B.st; omega
  have hbl := B.len
  obtain ⟨j, rfl, j0, j1, g1, g2, g3⟩ := hr r List.mem_cons_self
  have ht : lvTo l (2 * j) = t := (B.ends j0 j1).2
  have hp := push_one (least := least) hlen hbl j0 j1 rfl g3 ⟨by omega, g2⟩ hl
  generalize hc : rd room (2 * j) = c at *
  have hlen2 : ((room.set (2 * j).toNat 0).set (2 * j + 1).toNat c).length = 2 * l.length := by rw [List.length_set, List.length_set]; exact hlen
  have hold : ∀ q, 0 ≤ q → q ≠ 2 * j → q ≠ 2 * j + 1 → rd ((room.set (2 * j).toNat 0).set (2 * j + 1).toNat c) q = rd room q := fun q q0 q1 q2 => by
   rw [rd_set (by omega) (by rw [List.length_set]; omega) q0, if_neg (by omega), rd_set (by omega) (by omega) q0, if_neg (by omega)]
  have hnew0 : rd ((room.set (2 * j).toNat 0).set (2 * j + 1).toNat c) (2 * j) = 0 := by
   rw [rd_set (by omega) (by rw [List.length_set]; omega) (by omega), if_neg (by omega), rd_set (by omega) (by omega) (by omega), if_pos rfl]
  have hnew1 : rd ((room.set (2 * j).toNat 0).set (2 * j + 1).toNat c) (2 * j + 1) = c := by
   rw [rd_set (by omega) (by rw [List.length_set]; omega) (by omega), if_pos rfl]
  rw [List.nodup_cons] at hn
  have hrest : ∀ r ∈ rest, r ≠ 2 * j ∧ r ≠ 2 * j + 1 ∧ r + 1 ≠ 2 * j ∧ r + 1 ≠ 2 * j + 1 ∧ 0 ≤ r := fun r h => by
   obtain ⟨i, rfl, i0, _⟩ := hr r (List.mem_cons_of_mem _ h)
   have : 2 * i ≠ 2 * j := fun e => hn.1 (e ▸ h)
   omega
  generalize hR : (room.set (2 * j).toNat 0).set (2 * j + 1).toNat c = R at *
  have hrm : ∀ r ∈ rest, rd R r = rd room r ∧ rd R (r + 1) = rd room (r + 1) := fun r h => by
   obtain ⟨a, b, c, d, e⟩ := hrest r h
   exact ⟨hold r e a b, hold (r + 1) (by omega) c d⟩
  have hmap : (rest.map fun r => (⟨[r], rd R r⟩ : S61)) = rest.map fun r => ⟨[r], rd room r⟩ :=
   List.map_congr_left (fun r h => by rw [(hrm r h).1])
  have hL2 : ∀ ts' : List (List Int), s.toNat < ts'.length → ts'.getD s.toNat [] = 2 * j :: rest → Left R s least ts' rest := fun ts' a b => ⟨a, .inr ⟨_, b, by omega⟩⟩
  obtain ⟨ts0, hnext, t1, t2⟩ := next_left_cons (l := l) hst hL (by omega) ht
  simp only [List.length_cons] at hw
  obtain ⟨room', h1, h2, h3⟩ := run_left B hl rest R ts0 (ws ++ [⟨[2 * j], c⟩]) hlen2 (hL2 _ t1 t2) hn.2 (by simp; omega) (fun r h => by
   obtain ⟨i, e, i0, i1, k1, k2, k3⟩ := hr r (List.mem_cons_of_mem _ h)
   obtain ⟨a, b⟩ := hrm r h
   exact ⟨i, e, i0, i1, by omega, by omega, by omega⟩)
  refine ⟨room', fun K f hK hf => ?_, fun r h => ?_, fun q q0 hq => ?_⟩
  ·obtain ⟨f, rfl⟩ : ∃ k, f = k + 1 := ⟨f - 1, by simp only [List.length_cons] at hf; omega⟩
   simp only [List.length_cons] at hf
   rw [plRun, hnext K hK]
   simp only [Option.bind_some, if_true]
   rw [if_pos (by omega), hp]
   simp only [Option.bind_some]
   rw [h1 K f hK (by omega), List.append_assoc, List.map_cons, hc, hmap]
   rfl
  ·rcases List.mem_cons.1 h with rfl | h
   ·rw [h3 _ (by omega) (fun r h => by obtain ⟨a, b, c, d, e⟩ := hrest r h; omega), hnew1, hc]
   ·rw [h2 r h, (hrm r h).1]
  ·obtain ⟨a, b⟩ := hq _ List.mem_cons_self
   rw [h3 q q0 (fun r h => hq r (List.mem_cons_of_mem _ h)), hold q q0 a b]
end
theorem out_rd {room : List Int} {m : Nat} {j : Int} (h0 : 0 ≤ j) (h1 : j < (m : Int)) : rd (plOut room m) j = rd room (2 * j + 1) := by
 obtain ⟨i, rfl⟩ : ∃ i : Nat, j = (i : Int) := ⟨j.toNat, by omega⟩
 unfold plOut
 show List.getD _ (i : Int).toNat 0 = _
 rw [Int.toNat_natCast, List.getD_eq_getElem?_getD, List.getElem?_map, List.getElem?_range (by omega)]
 rfl
theorem out_len (room : List Int) (m : Nat) : (plOut room m).length = m := by
 unfold plOut
 rw [List.length_map, List.length_range]
theorem bunch_block {s t least : Int} {l : List S30} (B : Bunch s t l) (hl : 1 ≤ least) :
  ∃ out, Ev (fun k => plain_Block.f k 2 s t l (List.replicate l.length 0) least) (out, (gd (roomOf l (List.replicate l.length 0)) least l.length).map (fun r => ⟨[r], (rd_T30 l (r / 2)).f2⟩), 0) ∧
   out.length = l.length ∧ ∀ j : Int, 0 ≤ j → j < (l.length : Int) → rd out j = if least ≤ (rd_T30 l j).f2 then (rd_T30 l j).f2 else 0 := by
 have R := B.right
 have F : IsFlow 2 s t l (List.replicate l.length 0) := IsFlow.zeros B.good
 have hbl := B.len
 have hbs := B.st
 have hro := fun (j : Int) (h0 : 0 ≤ j) (h1 : j < (l.length : Int)) => B.room h0 h1
 have hlen : (roomOf l (List.replicate l.length 0)).length = 2 * l.length := roomOf_len F.1.len
 obtain ⟨up, hup, U⟩ := levels_ev R F hl
 have hld := leads_ev R F hup U
 rw [bunch_ld B hl U l.length (Nat.le_refl _)] at hld
 have hroom := room_ev R F
 generalize hrm : roomOf l (List.replicate l.length 0) = room at *
 have hgl := gd_len (room := room) (least := least) l.length
 have hgm : ∀ r ∈ gd room least l.length, ∃ j : Int, r = 2 * j ∧ 0 ≤ j ∧ j < (l.length : Int) ∧ least ≤ rd room r := fun r h => (gd_mem _).1 h
 have hsn : s.toNat < 3 := by omega
 have hrows := rows_fold (fr := lvFrom l) (s := s) (gd room least l.length) (List.replicate 3 []) (by rw [List.length_replicate]; exact hsn) (fun r h => by
  obtain ⟨j, rfl, j0, j1, _⟩ := hgm r h
  exact (B.ends j0 j1).1)
 have hL : Left room s least (plRows l (2 + 1 : Int).toNat (gd room least l.length)) (gd room least l.length) := by
  refine ⟨by unfold plRows; show _ < List.length (List.foldl _ (List.replicate 3 []) _); rw [hrows.1, List.length_replicate]; exact hsn, .inl ?_⟩
  unfold plRows
  show List.getD (List.foldl _ (List.replicate 3 []) _) _ _ = _
  rw [hrows.2, List.getD_eq_getElem?_getD, List.getElem?_replicate, if_pos hsn]
  rfl
 have hcap : ∀ j : Int, 0 ≤ j → j < (l.length : Int) → (rd_T30 l j).f2 < 100 := fun j h0 h1 => (B.arcs _ (rdT_mem h0 h1)).2.2.2
 obtain ⟨room', h1, h2, h3⟩ := run_left B hl (gd room least l.length) room _ [] hlen hL (gd_nodup _) (by simp; omega) (fun r h => by
  obtain ⟨j, rfl, j0, j1, j2⟩ := hgm r h
  obtain ⟨a, b⟩ := hro j j0 j1
  exact ⟨j, rfl, j0, j1, j2, by rw [a]; exact hcap j j0 j1, b⟩)
 refine ⟨plOut room' l.length, ?_, out_len _ _, fun j j0 j1 => ?_⟩
 ·unfold plain_Block.f
  refine Ev.bind hld ?_
  simp only [if_true]
  refine Ev.bind hroom ?_
  have hfit : lvFit 2 s l room = true := by
   unfold lvFit
   rw [decide_eq_true (show (1 : Int) ≤ 2 ∧ (2 : Int) ≤ 1000000 ∧ 0 ≤ s ∧ s ≤ 2 ∧ l.length ≤ 2000 ∧ room.length = 2 * l.length by omega), Bool.true_and]
   refine List.all_eq_true.2 (fun a ha => decide_eq_true ?_)
   have := B.good a ha
   unfold GoodArc at this
   omega
  have hok : (lvFit 2 s l room && (decide ((gd room least l.length).length ≤ 1000000 ∧ (List.replicate l.length (0 : Int)).length ≤ l.length) && (gd room least l.length).all fun r => decide (0 ≤ r ∧ r < (room.length : Int)))) = true := by
   rw [hfit, decide_eq_true (show (gd room least l.length).length ≤ 1000000 ∧ (List.replicate l.length (0 : Int)).length ≤ l.length by rw [List.length_replicate]; omega), Bool.true_and, Bool.true_and]
   refine List.all_eq_true.2 (fun r h => decide_eq_true ?_)
   obtain ⟨j, rfl, j0, j1, _⟩ := hgm r h
   omega
  have hmap : ((gd room least l.length).map fun r => (⟨[r], rd room r⟩ : S61)) = (gd room least l.length).map fun r => ⟨[r], (rd_T30 l (r / 2)).f2⟩ :=
   List.map_congr_left (fun r h => by
    obtain ⟨j, rfl, j0, j1, _⟩ := hgm r h
    rw [(hro j j0 j1).1, show 2 * j / 2 = j by omega])
  refine ⟨(gd room least l.length).length + 4, fun k hk => ?_⟩
  show (if _ = true then _ else none) = _
  rw [if_pos hok, h1 k k (by omega) (by omega), hmap, List.length_replicate]
  rfl
 ·rw [out_rd j0 j1]
  by_cases c : least ≤ (rd_T30 l j).f2
  ·rw [if_pos c, h2 (2 * j) ((gd_mem _).2 ⟨j, rfl, j0, j1, by rw [(hro j j0 j1).1]; exact c⟩), (hro j j0 j1).1]
  ·rw [if_neg c, h3 _ (by omega) (fun r h => by
    obtain ⟨i, rfl, i0, i1, i2⟩ := hgm r h
    rw [(hro i i0 i1).1] at i2
    have : i ≠ j := fun e => c (e ▸ i2)
    omega), (hro j j0 j1).2]
theorem shown8_ev : Ev (fun k => racewaylaw8_shown.f k) true := by
 have B : Bunch 1 2 [(⟨1, 2, 5⟩ : S30), ⟨1, 2, 3⟩] := ⟨fun a ha => by
  rcases List.mem_cons.1 ha with rfl | ha
  ·decide
  ·obtain rfl := List.mem_singleton.1 ha
   decide, .inl ⟨rfl, rfl⟩, by decide⟩
 obtain ⟨out, h1, h2, h3⟩ := bunch_block B (least := 1) (by decide)
 have g0 := h3 0 (by decide) (by decide)
 have g1 := h3 1 (by decide) (by decide)
 have e0 : rd out 0 = 5 := by rw [g0]; rfl
 have e1 : rd out 1 = 3 := by rw [g1]; rfl
 have hl : out.length = 2 := h2
 have hg : gd (roomOf [(⟨1, 2, 5⟩ : S30), ⟨1, 2, 3⟩] (List.replicate 2 0)) 1 2 = [0, 2] := by decide +kernel
 have h1 : Ev (fun k => plain_Block.f k 2 1 2 [(⟨1, 2, 5⟩ : S30), ⟨1, 2, 3⟩] [0, 0] 1) (out, ((gd (roomOf [(⟨1, 2, 5⟩ : S30), ⟨1, 2, 3⟩] (List.replicate 2 0)) 1 2).map (fun r => ⟨[r], (rd_T30 [(⟨1, 2, 5⟩ : S30), ⟨1, 2, 3⟩] (r / 2)).f2⟩)), 0) := h1
 rw [hg] at h1
 unfold racewaylaw8_shown.f
 refine Ev.bind h1 ?_
 refine Ev.congr (fun k => ?_) (Ev.now true)
 simp only [hl, e0, e1, if_true]
 rfl
theorem xor_small : ∀ i j : Fin 64, Go.bits .xor .i64 (64 * (i.val : Int) + (j.val : Int)) 1 = if (64 * (i.val : Int) + (j.val : Int)) % 2 = 0 then 64 * (i.val : Int) + (j.val : Int) + 1 else 64 * (i.val : Int) + (j.val : Int) - 1 := by decide +kernel
def flipT (r : Int) : Int := if r % 2 = 0 then r + 1 else r - 1
theorem xor_flip {r : Int} (h0 : 0 ≤ r) (h1 : r < 4096) : Go.bits .xor .i64 r 1 = flipT r := by
 have := xor_small ⟨(r / 64).toNat, by omega⟩ ⟨(r % 64).toNat, by omega⟩
 simp only at this
 rwa [show 64 * (((r / 64).toNat : Nat) : Int) + (((r % 64).toNat : Nat) : Int) = r by omega] at this
def rowOf (l : List S30) (L : List Int) (v : Int) : List Int := L.filter (fun r => decide (fromOf l r = v))
theorem rowOf_mem {l : List S30} {L : List Int} {v r : Int} : r ∈ rowOf l L v ↔ r ∈ L ∧ fromOf l r = v := by
 simp [rowOf]
theorem rows_fold' {l : List S30} {n : Int} {v : Int} (v0 : 0 ≤ v) : ∀ (L : List Int) (ts : List (List Int)), (ts.length : Int) = n + 1 → (∀ r ∈ L, 0 ≤ fromOf l r ∧ fromOf l r ≤ n) →
  ((L.foldl (Go.Proofs.YtdiaedecnfbgdaaW.Mine.trAdd (lvFrom l)) ts).length : Int) = n + 1 ∧ (L.foldl (Go.Proofs.YtdiaedecnfbgdaaW.Mine.trAdd (lvFrom l)) ts).getD v.toNat [] = ts.getD v.toNat [] ++ rowOf l L v
 | [], ts, hs, _ => ⟨hs, by simp [rowOf]⟩
 | r :: L, ts, hs, h => by
  obtain ⟨e0, e1⟩ := h r List.mem_cons_self
  have e : lvFrom l r = fromOf l r := rfl
  have h2 := rows_fold' (l := l) (n := n) (v := v) v0 L (Go.Proofs.YtdiaedecnfbgdaaW.Mine.trAdd (lvFrom l) ts r) (by unfold Go.Proofs.YtdiaedecnfbgdaaW.Mine.trAdd; rw [List.length_set]; exact hs) (fun q hq => h q (List.mem_cons_of_mem _ hq))
  rw [List.foldl_cons]
  refine ⟨h2.1, ?_⟩
  rw [h2.2]
  unfold Go.Proofs.YtdiaedecnfbgdaaW.Mine.trAdd
  rw [e, getD_set' (by omega)]
  by_cases c : fromOf l r = v
  ·rw [if_pos (by rw [c]), c]
   simp only [rowOf]
   rw [List.filter_cons_of_pos (by simpa using c), List.append_assoc]
   rfl
  ·rw [if_neg (by omega)]
   simp only [rowOf]
   rw [List.filter_cons_of_neg (by simpa using c)]
theorem plRows_get {l : List S30} {n : Int} {L : List Int} (hn : 0 ≤ n) (h : ∀ r ∈ L, 0 ≤ fromOf l r ∧ fromOf l r ≤ n) :
  ((plRows l (n + 1).toNat L).length : Int) = n + 1 ∧ ∀ v, 0 ≤ v → (plRows l (n + 1).toNat L).getD v.toNat [] = rowOf l L v := by
 have key := fun (v : Int) (v0 : 0 ≤ v) => rows_fold' (l := l) (n := n) v0 L (List.replicate (n + 1).toNat []) (by rw [List.length_replicate]; omega) h
 refine ⟨(key 0 (Int.le_refl _)).1, fun v v0 => ?_⟩
 unfold plRows
 rw [(key v v0).2, List.getD_eq_getElem?_getD, List.getElem?_replicate]
 split <;> rfl
theorem split_uniq {α : Type} {P : α → Prop} : ∀ {pre pre' post post' : List α} {r r' : α}, pre ++ r :: post = pre' ++ r' :: post' → (∀ q ∈ pre, ¬ P q) → P r → (∀ q ∈ pre', ¬ P q) → P r' → r = r'
 | [], [], _, _, _, _, h, _, _, _, _ => (List.cons.inj h).1
 | [], q :: pre', _, _, r, r', h, _, hr, h', _ => by
  obtain ⟨e, _⟩ := List.cons.inj h
  subst e
  exact absurd hr (h' _ List.mem_cons_self)
 | q :: pre, [], _, _, r, r', h, h1, _, _, hr' => by
  obtain ⟨e, _⟩ := List.cons.inj h
  subst e
  exact absurd hr' (h1 _ List.mem_cons_self)
 | q :: pre, q' :: pre', _, _, r, r', h, h1, hr, h', hr' => by
  obtain ⟨_, e⟩ := List.cons.inj h
  exact split_uniq e (fun x hx => h1 x (List.mem_cons_of_mem _ hx)) hr (fun x hx => h' x (List.mem_cons_of_mem _ hx)) hr'
def Adm (L room : List Int) (least r : Int) : Prop := r ∈ L ∧ least ≤ rd room r
def Ways (l : List S30) (L : List Int) (t least : Int) (room : List Int) (v : Int) : Prop := ∃ w, RPath l v w t ∧ ∀ r ∈ w, Adm L room least r
def First (l : List S30) (L : List Int) (t least : Int) (room : List Int) : Int → List Int → Prop
 | v, [] => v = t
 | v, r :: w => v ≠ t ∧ (∃ pre post, rowOf l L v = pre ++ r :: post ∧ ∀ q ∈ pre, ¬ (least ≤ rd room q ∧ Ways l L t least room (toOf l q))) ∧ least ≤ rd room r ∧ First l L t least room (toOf l r) w
section
variable {l : List S30} {L : List Int} {s t n least : Int} {room room' : List Int}
theorem First.path : ∀ {w : List Int} {v : Int}, First l L t least room v w → RPath l v w t ∧ ∀ r ∈ w, Adm L room least r
 | [], v, h => ⟨h, fun r hr => by cases hr⟩
 | r :: w, v, ⟨_, ⟨pre, post, e, _⟩, hr, h⟩ => by
  have hm : r ∈ rowOf l L v := by rw [e]; exact List.mem_append_right _ List.mem_cons_self
  obtain ⟨h1, h2⟩ := rowOf_mem.1 hm
  obtain ⟨p1, p2⟩ := First.path h
  exact ⟨⟨h2, p1⟩, fun q hq => by
   rcases List.mem_cons.1 hq with rfl | hq
   ·exact ⟨h1, hr⟩
   ·exact p2 q hq⟩
theorem First.ways {w : List Int} {v : Int} (h : First l L t least room v w) : Ways l L t least room v := ⟨w, h.path⟩
theorem First.unique : ∀ {w w' : List Int} {v : Int}, First l L t least room v w → First l L t least room v w' → w = w'
 | [], [], _, _, _ => rfl
 | [], _ :: _, v, h, h' => absurd h h'.1
 | _ :: _, [], v, h, h' => absurd h' h.1
 | r :: w, r' :: w', v, ⟨_, ⟨pre, post, e, hp⟩, hr, h⟩, ⟨_, ⟨pre', post', e', hp'⟩, hr', h'⟩ => by
  have er := split_uniq (e.symm.trans e') hp ⟨hr, h.ways⟩ hp' ⟨hr', h'.ways⟩
  subst er
  rw [First.unique h h']
def fin (l : List S30) : Int → List Int → Int
 | u, [] => u
 | _, r :: w => fin l (toOf l r) w
theorem fin_snoc : ∀ (w : List Int) (u r : Int), fin l u (w ++ [r]) = toOf l r
 | [], _, _ => rfl
 | _ :: w, u, r => fin_snoc w _ r
theorem plEnd_fin : ∀ (w : List Int), plEnd l s w = fin l s w := fun w => by
 rcases List.eq_nil_or_concat w with rfl | ⟨x, r, e⟩
 ·rfl
 ·rw [List.concat_eq_append] at e
  subst e
  unfold plEnd
  rw [fin_snoc, if_neg (by simp)]
  have : rd (x ++ [r]) (((x ++ [r]).length : Int) - 1) = r := by
   rw [List.length_append, List.length_singleton, show ((x.length + 1 : Nat) : Int) - 1 = (x.length : Int) by omega, rd_get (by simp)]
   simp
  rw [this]
  rfl
structure LL (l : List S30) (L : List Int) (n : Int) (up : List Int) : Prop where
 mem : ∀ r ∈ L, InR l r ∧ 0 ≤ rd up (fromOf l r) ∧ rd up (toOf l r) = rd up (fromOf l r) + 1 ∧ rd up (toOf l r) < n
 sorted : L.Pairwise (· < ·)
theorem same_arc {up : List Int} (H : LL l L n up) {a b : Int} (ha : a ∈ L) (hb : b ∈ L) (e : a / 2 = b / 2) : a = b := by
 obtain ⟨a0, a1, a2, _⟩ := H.mem a ha
 obtain ⟨b0, b1, b2, _⟩ := H.mem b hb
 apply Classical.byContradiction
 intro hne
 have h0 := a0.1
 have h1 := b0.1
 unfold fromOf toOf at a2 b2
 rw [e] at a2
 by_cases c : a % 2 = 1
 ·have d : ¬ b % 2 = 1 := by omega
  rw [if_pos c, if_pos c] at a2
  rw [if_neg d, if_neg d] at b2
  omega
 ·have d : b % 2 = 1 := by omega
  rw [if_neg c, if_neg c] at a2
  rw [if_pos d, if_pos d] at b2
  omega
theorem LL.levels {up : List Int} (H : LL l L n up) : ∀ {w : List Int} {u v : Int}, RPath l u w v → (∀ r ∈ w, r ∈ L) → rd up v = rd up u + (w.length : Int) ∧ (∀ r ∈ w, rd up u ≤ rd up (fromOf l r) ∧ rd up (fromOf l r) < rd up v) ∧ (w ≠ [] → 0 ≤ rd up u ∧ rd up v < n)
 | [], u, v, h, _ => by
  have e : u = v := h
  subst e
  exact ⟨by simp, fun r hr => (by cases hr), fun h => absurd rfl h⟩
 | r :: w, u, v, ⟨h0, h⟩, hL => by
  obtain ⟨m0, m1, m2, m3⟩ := H.mem r (hL r List.mem_cons_self)
  obtain ⟨i1, i2, i3⟩ := LL.levels H h (fun q hq => hL q (List.mem_cons_of_mem _ hq))
  rw [h0] at m1 m2
  refine ⟨by rw [i1, m2, List.length_cons]; omega, fun q hq => ?_, fun _ => ⟨m1, ?_⟩⟩
  ·rcases List.mem_cons.1 hq with rfl | hq
   ·rw [h0]; omega
   ·have := i2 q hq
    omega
  ·by_cases c : w = []
   ·subst c
    have e : toOf l r = v := h
    rw [← e]; exact m3
   ·exact (i3 c).2
theorem LL.arcs {up : List Int} (H : LL l L n up) : ∀ {w : List Int} {u v : Int}, RPath l u w v → (∀ r ∈ w, r ∈ L) → (w.map (· / 2)).Nodup
 | [], _, _, _, _ => List.nodup_nil
 | r :: w, u, v, ⟨h0, h⟩, hL => by
  obtain ⟨m0, m1, m2, m3⟩ := H.mem r (hL r List.mem_cons_self)
  obtain ⟨_, i2, _⟩ := LL.levels H h (fun q hq => hL q (List.mem_cons_of_mem _ hq))
  rw [List.map_cons, List.nodup_cons]
  refine ⟨fun hc => ?_, LL.arcs H h (fun q hq => hL q (List.mem_cons_of_mem _ hq))⟩
  obtain ⟨q, hq, e⟩ := List.mem_map.1 hc
  have := same_arc H (hL q (List.mem_cons_of_mem _ hq)) (hL r List.mem_cons_self) e
  subst this
  have := (i2 q hq).1
  omega
def OnH (l : List S30) (t least : Int) (room : List Int) (ts : List (List Int)) : Int → List Int → Prop
 | _, [] => True
 | v, r :: w => fromOf l r = v ∧ v ≠ t ∧ (∃ rest, ts.getD v.toNat [] = r :: rest) ∧ least ≤ rd room r ∧ OnH l t least room ts (toOf l r) w
theorem OnH.rpath {ts : List (List Int)} : ∀ {w : List Int} {v : Int}, OnH l t least room ts v w → RPath l v w (fin l v w)
 | [], _, _ => rfl
 | r :: w, _, h => ⟨h.1, OnH.rpath h.2.2.2.2⟩
theorem OnH.snoc {ts : List (List Int)} {r : Int} {rs : List Int} : ∀ {w : List Int} {v : Int}, OnH l t least room ts v w → fromOf l r = fin l v w → fin l v w ≠ t → ts.getD (fin l v w).toNat [] = r :: rs → least ≤ rd room r → OnH l t least room ts v (w ++ [r])
 | [], _, _, h1, h2, h3, h4 => ⟨h1, h2, ⟨rs, h3⟩, h4, trivial⟩
 | _ :: w, _, h, h1, h2, h3, h4 => ⟨h.1, h.2.1, h.2.2.1, h.2.2.2.1, OnH.snoc h.2.2.2.2 h1 h2 h3 h4⟩
theorem OnH.init {ts : List (List Int)} {r : Int} : ∀ {w : List Int} {v : Int}, OnH l t least room ts v (w ++ [r]) → OnH l t least room ts v w ∧ fromOf l r = fin l v w ∧ fin l v w ≠ t ∧ ∃ rest, ts.getD (fin l v w).toNat [] = r :: rest
 | [], _, h => ⟨trivial, h.1, h.2.1, h.2.2.1⟩
 | _ :: w, _, h => by
  obtain ⟨a, b⟩ := OnH.init (w := w) h.2.2.2.2
  exact ⟨⟨h.1, h.2.1, h.2.2.1, h.2.2.2.1, a⟩, b⟩
theorem OnH.keep {ts ts' : List (List Int)} : ∀ {w : List Int} {v : Int}, OnH l t least room ts v w → (∀ r ∈ w, ts'.getD (fromOf l r).toNat [] = ts.getD (fromOf l r).toNat []) → (∀ r ∈ w, least ≤ rd room' r) → OnH l t least room' ts' v w
 | [], _, _, _, _ => trivial
 | r :: w, v, ⟨h0, h1, ⟨rest, h2⟩, h3, h4⟩, k, kr => by
  refine ⟨h0, h1, ⟨rest, ?_⟩, kr r List.mem_cons_self, OnH.keep h4 (fun q hq => k q (List.mem_cons_of_mem _ hq)) (fun q hq => kr q (List.mem_cons_of_mem _ hq))⟩
  have := k r List.mem_cons_self
  rw [h0] at this
  rw [this, h2]
theorem OnH.take {ts : List (List Int)} : ∀ {w : List Int} {v : Int} (j : Nat), OnH l t least room ts v w → OnH l t least room ts v (w.take j)
 | [], _, j, _ => by rw [List.take_nil]; trivial
 | _ :: w, _, 0, _ => by rw [List.take_zero]; trivial
 | _ :: w, _, j + 1, h => ⟨h.1, h.2.1, h.2.2.1, h.2.2.2.1, OnH.take j h.2.2.2.2⟩
structure Wk (l : List S30) (L : List Int) (s t n least : Int) (room : List Int) (ts : List (List Int)) (walk : List Int) : Prop where
 tsl : (ts.length : Int) = n + 1
 row : ∀ v, 0 ≤ v → v ≤ n → ∃ pre, rowOf l L v = pre ++ ts.getD v.toNat [] ∧ ∀ q ∈ pre, rd room q < least ∨ toOf l q ≠ t ∧ ts.getD (toOf l q).toNat [] = []
 on : OnH l t least room ts s walk
def tot (ts : List (List Int)) : Nat := (ts.map List.length).sum
theorem tot_set {r : Int} {rs : List Int} : ∀ {ts : List (List Int)} {i : Nat}, i < ts.length → ts.getD i [] = r :: rs → tot (ts.set i rs) + 1 = tot ts
 | [], i, h, _ => absurd h (by simp)
 | x :: ts, 0, _, e => by
  have e : x = r :: rs := e
  subst e
  simp only [tot, List.set_cons_zero, List.map_cons, List.sum_cons, List.length_cons]
  omega
 | x :: ts, i + 1, h, e => by
  have ih := tot_set (r := r) (rs := rs) (ts := ts) (i := i) (by simpa using h) (by simpa using e)
  simp only [tot, List.set_cons_succ, List.map_cons, List.sum_cons] at ih ⊢
  omega
theorem row_head {ts : List (List Int)} {walk : List Int} (W : Wk l L s t n least room ts walk) {v r : Int} {rs : List Int} (v0 : 0 ≤ v) (vn : v ≤ n) (e : ts.getD v.toNat [] = r :: rs) : r ∈ L ∧ fromOf l r = v := by
 obtain ⟨pre, h, _⟩ := W.row v v0 vn
 rw [e] at h
 have hm : r ∈ rowOf l L v := by rw [h]; exact List.mem_append_right _ List.mem_cons_self
 exact rowOf_mem.1 hm
section
variable {up : List Int} (H : LL l L n up) (hg : ∀ a ∈ l, GoodArc n a)
include H hg
theorem walk_in {ts : List (List Int)} {walk : List Int} (W : Wk l L s t n least room ts walk) : ∀ {w : List Int} {v : Int}, 0 ≤ v → v ≤ n → OnH l t least room ts v w → (∀ r ∈ w, r ∈ L) ∧ 0 ≤ fin l v w ∧ fin l v w ≤ n
 | [], v, v0, vn, _ => ⟨fun r hr => (by cases hr), v0, vn⟩
 | r :: w, v, v0, vn, ⟨h0, h1, ⟨rest, h2⟩, h3, h4⟩ => by
  have hr := row_head W v0 vn h2
  obtain ⟨_, _, t1, tn⟩ := ends_range hg (H.mem r hr.1).1
  obtain ⟨a, b⟩ := walk_in W (by omega) tn h4
  exact ⟨fun q hq => by
   rcases List.mem_cons.1 hq with rfl | hq
   ·exact hr.1
   ·exact a q hq, b⟩
theorem dead_cut {ts : List (List Int)} {walk : List Int} (W : Wk l L s t n least room ts walk) : ∀ (w : List Int) {v : Int}, 0 ≤ v → v ≤ n → v ≠ t → ts.getD v.toNat [] = [] → RPath l v w t → (∀ r ∈ w, Adm L room least r) → False
 | [], v, _, _, h1, _, h3, _ => h1 h3
 | r :: w, v, v0, vn, h1, h2, ⟨p0, p⟩, h4 => by
  obtain ⟨pre, e, hp⟩ := W.row v v0 vn
  obtain ⟨rL, hr⟩ := h4 r List.mem_cons_self
  rw [h2, List.append_nil] at e
  have hm : r ∈ pre := by rw [← e]; exact rowOf_mem.2 ⟨rL, p0⟩
  obtain ⟨_, _, t1, tn⟩ := ends_range hg (H.mem r rL).1
  rcases hp r hm with c | ⟨c1, c2⟩
  ·omega
  ·exact dead_cut W w (by omega) tn c1 c2 p (fun q hq => h4 q (List.mem_cons_of_mem _ hq))
theorem Wk.first {ts : List (List Int)} {walk : List Int} (W : Wk l L s t n least room ts walk) : ∀ {w : List Int} {v : Int}, 0 ≤ v → v ≤ n → OnH l t least room ts v w → fin l v w = t → First l L t least room v w
 | [], v, _, _, _, h => h
 | r :: w, v, v0, vn, ⟨h0, h1, ⟨rest, h2⟩, h3, h4⟩, hf => by
  have hr := row_head W v0 vn h2
  obtain ⟨_, _, t1, tn⟩ := ends_range hg (H.mem r hr.1).1
  obtain ⟨pre, e, hp⟩ := W.row v v0 vn
  rw [h2] at e
  refine ⟨h1, ⟨pre, rest, e, fun q hq hc => ?_⟩, h3, W.first (by omega) tn h4 hf⟩
  obtain ⟨hc1, x, hx1, hx2⟩ := hc
  rcases hp q hq with c | ⟨c1, c2⟩
  ·omega
  ·have hqL : q ∈ L := (rowOf_mem.1 (show q ∈ rowOf l L v by rw [e]; exact List.mem_append_left _ hq)).1
   obtain ⟨_, _, q1, qn⟩ := ends_range hg (H.mem q hqL).1
   exact dead_cut H hg W x (by omega) qn c1 c2 hx1 hx2
end
end
section
variable {l : List S30} {L : List Int} {s t n least : Int} {room : List Int} {up : List Int}
theorem OnH.adm {ts : List (List Int)} : ∀ {w : List Int} {v : Int}, OnH l t least room ts v w → ∀ r ∈ w, least ≤ rd room r
 | [], _, _, _, h => by cases h
 | r :: w, _, h, q, hq => by
  rcases List.mem_cons.1 hq with rfl | hq
  ·exact h.2.2.2.1
  ·exact OnH.adm h.2.2.2.2 q hq
theorem Wk.drop (H : LL l L n up) (hg : ∀ a ∈ l, GoodArc n a) (hs : 1 ≤ s ∧ s ≤ n) {ts : List (List Int)} {walk : List Int} (W : Wk l L s t n least room ts walk) {r : Int} {rs : List Int} (e : ts.getD (fin l s walk).toNat [] = r :: rs)
  (hd : rd room r < least ∨ toOf l r ≠ t ∧ ts.getD (toOf l r).toNat [] = []) : Wk l L s t n least room (ts.set (fin l s walk).toNat rs) walk ∧ tot (ts.set (fin l s walk).toNat rs) + 1 = tot ts := by
 obtain ⟨wL, v0, vn⟩ := walk_in H hg W (by omega) hs.2 W.on
 have hlev := (LL.levels H W.on.rpath wL).2.1
 obtain ⟨v, hv⟩ : ∃ v, fin l s walk = v := ⟨_, rfl⟩
 rw [hv] at e v0 vn hlev ⊢
 have hts := W.tsl
 have hlt : v.toNat < ts.length := by omega
 have key : ∀ u, 0 ≤ u → (ts.set v.toNat rs).getD u.toNat [] = if v = u then rs else ts.getD u.toNat [] := fun u hu => by
  rw [getD_set' hlt]
  by_cases c : v = u
  ·rw [if_pos (by rw [c]), if_pos c]
  ·rw [if_neg (by omega), if_neg c]
 have ek : ∀ u : Int, 0 ≤ u → ts.getD u.toNat [] = [] → (ts.set v.toNat rs).getD u.toNat [] = [] := fun u hu h => by
  rw [key u hu, if_neg]
  ·exact h
  ·intro c
   rw [← c, e] at h
   cases h
 have dk : ∀ q, q ∈ L → (rd room q < least ∨ toOf l q ≠ t ∧ ts.getD (toOf l q).toNat [] = []) → (rd room q < least ∨ toOf l q ≠ t ∧ (ts.set v.toNat rs).getD (toOf l q).toNat [] = []) := fun q hq h => by
  rcases h with h | ⟨h1, h2⟩
  ·exact .inl h
  ·obtain ⟨_, _, t1, _⟩ := ends_range hg (H.mem q hq).1
   exact .inr ⟨h1, ek _ (by omega) h2⟩
 refine ⟨⟨by rw [List.length_set]; exact hts, fun u u0 un => ?_, ?_⟩, tot_set hlt e⟩
 ·obtain ⟨pre, h1, h2⟩ := W.row u u0 un
  have hpL : ∀ q ∈ pre, q ∈ L := fun q hq => (rowOf_mem.1 (show q ∈ rowOf l L u by rw [h1]; exact List.mem_append_left _ hq)).1
  by_cases c : v = u
  ·subst c
   rw [e] at h1
   have hrL : r ∈ L := (rowOf_mem.1 (show r ∈ rowOf l L v by rw [h1]; exact List.mem_append_right _ List.mem_cons_self)).1
   refine ⟨pre ++ [r], by rw [key v u0, if_pos rfl, h1, List.append_assoc]; rfl, fun q hq => ?_⟩
   rcases List.mem_append.1 hq with hq | hq
   ·exact dk q (hpL q hq) (h2 q hq)
   ·obtain rfl := List.mem_singleton.1 hq
    exact dk q hrL hd
  ·exact ⟨pre, by rw [key u u0, if_neg c]; exact h1, fun q hq => dk q (hpL q hq) (h2 q hq)⟩
 ·refine W.on.keep (fun q hq => ?_) W.on.adm
  obtain ⟨f1, _, _, _⟩ := ends_range hg (H.mem q (wL q hq)).1
  rw [key _ (by omega), if_neg]
  intro c
  have := (hlev q hq).2
  rw [← c] at this
  omega
theorem next_run (H : LL l L n up) (hg : ∀ a ∈ l, GoodArc n a) (hs : 1 ≤ s ∧ s ≤ n) (hn : n ≤ 500) : ∀ (M : Nat) (ts : List (List Int)) (walk : List Int), Wk l L s t n least room ts walk → (n.toNat + 1) * tot ts + (n.toNat - walk.length) ≤ M →
  ∃ b ts' walk', (∀ K, M < K → plNext l s t least room K ts walk = some (b, ts', walk')) ∧ Wk l L s t n least room ts' walk' ∧ tot ts' ≤ tot ts ∧ (b = true → fin l s walk' = t) ∧ (b = false → walk' = [] ∧ ts'.getD s.toNat [] = [] ∧ s ≠ t) := by
 intro M
 induction M with
 | zero =>
  intro ts walk W hM
  obtain ⟨wL, v0, vn⟩ := walk_in H hg W (by omega) hs.2 W.on
  obtain ⟨i1, i2, i3⟩ := LL.levels H W.on.rpath wL
  exfalso
  have : walk.length < n.toNat := by
   by_cases c : walk = []
   ·subst c
    simp only [List.length_nil]
    omega
   ·have := i3 c
    omega
  omega
 | succ M ih =>
  intro ts walk W hM
  obtain ⟨wL, v0, vn⟩ := walk_in H hg W (by omega) hs.2 W.on
  by_cases hend : fin l s walk = t
  ·refine ⟨true, ts, walk, fun K hK => ?_, W, Nat.le_refl _, fun _ => hend, fun h => by cases h⟩
   obtain ⟨K, rfl⟩ : ∃ k, K = k + 1 := ⟨K - 1, by omega⟩
   rw [plNext, plEnd_fin, if_pos hend]
  ·cases hrow : ts.getD (fin l s walk).toNat [] with
   | cons r rs =>
    obtain ⟨hrL, hrf⟩ := row_head W v0 vn hrow
    by_cases hr : least ≤ rd room r
    ·have on2 := W.on.snoc hrf hend hrow hr
     have wL2 : ∀ q ∈ walk ++ [r], q ∈ L := fun q hq => by
      rcases List.mem_append.1 hq with hq | hq
      ·exact wL q hq
      ·obtain rfl := List.mem_singleton.1 hq
       exact hrL
     obtain ⟨i1, i2, i3⟩ := LL.levels H on2.rpath wL2
     have i3 := i3 (by simp)
     rw [List.length_append, List.length_singleton] at i1
     obtain ⟨b, ts', walk', h1, h2⟩ := ih ts (walk ++ [r]) ⟨W.tsl, W.row, on2⟩ (by rw [List.length_append, List.length_singleton]; omega)
     refine ⟨b, ts', walk', fun K hK => ?_, h2⟩
     obtain ⟨K, rfl⟩ : ∃ k, K = k + 1 := ⟨K - 1, by omega⟩
     rw [plNext, plEnd_fin, if_neg hend, hrow]
     simp only [if_pos hr, if_pos (show walk.length ≤ 1000000 by omega)]
     exact h1 K (by omega)
    ·obtain ⟨W2, ht⟩ := W.drop H hg hs hrow (.inl (by omega))
     obtain ⟨b, ts', walk', h1, h2, h3, h4⟩ := ih _ walk W2 (by
      rw [← ht, Nat.mul_add] at hM
      omega)
     refine ⟨b, ts', walk', fun K hK => ?_, h2, by omega, h4⟩
     obtain ⟨K, rfl⟩ : ∃ k, K = k + 1 := ⟨K - 1, by omega⟩
     rw [plNext, plEnd_fin, if_neg hend, hrow]
     simp only [if_neg hr]
     exact h1 K (by omega)
   | nil =>
    rcases List.eq_nil_or_concat walk with rfl | ⟨w, r, e⟩
    ·refine ⟨false, ts, [], fun K hK => ?_, W, Nat.le_refl _, fun h => (by cases h), fun _ => ⟨rfl, hrow, hend⟩⟩
     obtain ⟨K, rfl⟩ : ∃ k, K = k + 1 := ⟨K - 1, by omega⟩
     rw [plNext, plEnd_fin, if_neg hend, hrow]
     simp only [List.length_nil, if_true]
    ·rw [List.concat_eq_append] at e
     subst e
     obtain ⟨on1, hf, hne, qs, hq⟩ := W.on.init
     rw [fin_snoc] at hend hrow
     have W1 : Wk l L s t n least room ts w := ⟨W.tsl, W.row, on1⟩
     obtain ⟨W2, ht⟩ := W1.drop H hg hs hq (.inr ⟨hend, hrow⟩)
     obtain ⟨i1, i2, i3⟩ := LL.levels H W.on.rpath wL
     have i3 := i3 (by simp)
     rw [List.length_append, List.length_singleton] at i1 hM
     obtain ⟨b, ts', walk', h1, h2, h3, h4⟩ := ih _ w W2 (by
      rw [← ht, Nat.mul_add] at hM
      omega)
     refine ⟨b, ts', walk', fun K hK => ?_, h2, by omega, h4⟩
     obtain ⟨K, rfl⟩ : ∃ k, K = k + 1 := ⟨K - 1, by omega⟩
     have etk : (w ++ [r]).take ((w ++ [r]).length - 1) = w := by simp
     rw [plNext, plEnd_fin, fin_snoc, if_neg hend, hrow]
     simp only [etk, if_neg (show ¬ (w ++ [r]).length = 0 by simp)]
     rw [plEnd_fin, hq]
     exact h1 K (by omega)
theorem plMost_le : ∀ (w : List Int) (a : Int), plMost room w a ≤ a ∧ ∀ r ∈ w, plMost room w a ≤ rd room r
 | [], a => ⟨Int.le_refl _, fun r hr => by cases hr⟩
 | r :: w, a => by
  obtain ⟨h1, h2⟩ := plMost_le w (if rd room r < a then rd room r else a)
  rw [plMost]
  have h3 : (if rd room r < a then rd room r else a) ≤ a ∧ (if rd room r < a then rd room r else a) ≤ rd room r := by
   by_cases c : rd room r < a
   ·rw [if_pos c]; omega
   ·rw [if_neg c]; omega
  refine ⟨by omega, fun q hq => ?_⟩
  rcases List.mem_cons.1 hq with rfl | hq
  ·omega
  ·exact h2 q hq
theorem plMost_in : ∀ (w : List Int) (a : Int), plMost room w a = a ∨ ∃ r ∈ w, plMost room w a = rd room r
 | [], a => .inl rfl
 | r :: w, a => by
  rw [plMost]
  rcases plMost_in w (if rd room r < a then rd room r else a) with h | ⟨q, hq, h⟩
  ·rw [h]
   split
   ·exact .inr ⟨r, List.mem_cons_self, rfl⟩
   ·exact .inl rfl
  ·exact .inr ⟨q, List.mem_cons_of_mem _ hq, h⟩
def mostOf (room w : List Int) : Int := plMost room w (rd room (rd w 0))
theorem mostOf_le {w : List Int} : ∀ r ∈ w, mostOf room w ≤ rd room r := (plMost_le w _).2
theorem mostOf_in {w : List Int} (h : w ≠ []) : ∃ r ∈ w, mostOf room w = rd room r := by
 rcases plMost_in (room := room) w (rd room (rd w 0)) with e | e
 ·cases w with
  | nil => exact absurd rfl h
  | cons a w => exact ⟨a, List.mem_cons_self, e⟩
 ·exact e
end
theorem rd_out {xs : List Int} {i : Int} (h : (xs.length : Int) ≤ i) : rd xs i = 0 := by
 unfold rd
 rw [List.getD_eq_getElem?_getD, List.getElem?_eq_none (by omega)]
 rfl
section
variable {l : List S30} {g : List Int} {m : Int}
theorem room_at (W : Within l g) (hcap : ∀ a ∈ l, a.f2 < 1000000000000) {i : Int} (h : InR l i) : rd (roomOf l g) i = if i % 2 = 1 then rd g (i / 2) else (rd_T30 l (i / 2)).f2 - rd g (i / 2) := by
 obtain ⟨h0, h1⟩ := h
 obtain ⟨a, b⟩ := roomOf_rd W hcap (i := i / 2) (by omega) (by omega)
 by_cases c : i % 2 = 1
 ·rw [if_pos c, ← b, show 2 * (i / 2) + 1 = i by omega]
 ·rw [if_neg c, ← a, show 2 * (i / 2) = i by omega]
theorem room_step (W : Within l g) (hcap : ∀ a ∈ l, a.f2 < 1000000000000) {r : Int} (hr : InR l r) (hm : 0 ≤ m ∧ m ≤ 1000000000000) (h : 0 ≤ rd g (r / 2) + rm r m ∧ rd g (r / 2) + rm r m ≤ (rd_T30 l (r / 2)).f2) :
  ((roomOf l g).set r.toNat (wrap64 (rd (roomOf l g) r - m))).set (flipT r).toNat (wrap64 (rd ((roomOf l g).set r.toNat (wrap64 (rd (roomOf l g) r - m))) (flipT r) + m)) = roomOf l (g.set (r / 2).toNat (rd g (r / 2) + rm r m)) := by
 have hlen := W.len
 have hrl : (roomOf l g).length = 2 * l.length := roomOf_len hlen
 obtain ⟨r0, r1⟩ := hr
 have W' : Within l (g.set (r / 2).toNat (rd g (r / 2) + rm r m)) := W.set _ _ h.1 (fun h' => by rw [rdT_nat (by omega) (by omega) h']; exact h.2)
 have hf : InR l (flipT r) ∧ (flipT r) / 2 = r / 2 ∧ flipT r ≠ r ∧ (flipT r) % 2 ≠ r % 2 := by
  unfold flipT InR
  split <;> exact ⟨⟨by omega, by omega⟩, by omega, by omega, by omega⟩
 obtain ⟨⟨f0, f1⟩, f2, f3, f4⟩ := hf
 have hb := within_rd W (i := r / 2) (by omega) (by omega)
 have hc := hcap _ (rdT_mem (l := l) (i := r / 2) (by omega) (by omega))
 have ex := room_at W hcap (i := r) ⟨r0, r1⟩
 have ey := room_at W hcap (i := flipT r) ⟨f0, f1⟩
 rw [f2] at ey
 have eflip : rd ((roomOf l g).set r.toNat (wrap64 (rd (roomOf l g) r - m))) (flipT r) = rd (roomOf l g) (flipT r) := by
  rw [rd_set r0 (by omega) f0, if_neg (fun e => f3 e.symm)]
 rw [eflip]
 have hrm : rm r m = if r % 2 = 1 then -m else m := rfl
 generalize flipT r = q at *
 have b1 : 0 ≤ rd (roomOf l g) r ∧ rd (roomOf l g) r < 1000000000000 := by rw [ex]; split <;> omega
 have b2 : 0 ≤ rd (roomOf l g) q ∧ rd (roomOf l g) q < 1000000000000 := by rw [ey]; split <;> omega
 rw [wrap_id (x := rd (roomOf l g) r - m) (by omega) (by omega), wrap_id (x := rd (roomOf l g) q + m) (by omega) (by omega)]
 refine rd_ext (by rw [List.length_set, List.length_set, hrl, roomOf_len (by rw [List.length_set]; exact hlen)]) (fun i hi => ?_)
 rw [rd_set f0 (by rw [List.length_set]; omega) hi, rd_set r0 (by omega) hi]
 by_cases hi2 : i < 2 * (l.length : Int)
 ·rw [room_at W' hcap ⟨hi, hi2⟩, rd_set (by omega) (by omega) (by omega)]
  by_cases c1 : r / 2 = i / 2
  ·rw [if_pos c1, ← c1]
   by_cases c2 : q = i
   ·subst c2
    rw [if_pos rfl, ey, hrm]
    by_cases c3 : r % 2 = 1
    ·rw [if_neg (by omega), if_neg (by omega), if_pos c3]; omega
    ·rw [if_pos (by omega), if_pos (by omega), if_neg c3]
   ·have e : r = i := by omega
    subst e
    rw [if_neg c2, if_pos rfl, ex, hrm]
    by_cases c3 : r % 2 = 1
    ·rw [if_pos c3, if_pos c3, if_pos c3]; omega
    ·rw [if_neg c3, if_neg c3, if_neg c3]; omega
  ·rw [if_neg c1, if_neg (by omega), if_neg (by omega), room_at W hcap ⟨hi, hi2⟩]
 ·rw [if_neg (by omega), if_neg (by omega), rd_out (by omega), rd_out]
  rw [roomOf_len (by rw [List.length_set]; exact hlen)]
  omega
theorem pour_eq (hcap : ∀ a ∈ l, a.f2 < 1000000000000) (hl : l.length ≤ 2000) (hm : 0 ≤ m ∧ m ≤ 1000000000000) : ∀ {w g : List Int}, Within l g → (∀ r ∈ w, InR l r) → (w.map (· / 2)).Nodup → Fits l g m w → plPour m w (roomOf l g) = roomOf l (rpush g m w)
 | [], g, _, _, _, _ => rfl
 | r :: w, g, W, hr, hn, hf => by
  have hlen := W.len
  have r0 := hr r List.mem_cons_self
  have h := hf r List.mem_cons_self
  rw [List.map_cons, List.nodup_cons] at hn
  have r1 := r0.1
  have r2 := r0.2
  have W' : Within l (g.set (r / 2).toNat (rd g (r / 2) + rm r m)) := W.set _ _ h.1 (fun h' => by rw [rdT_nat (by omega) (by omega) h']; exact h.2)
  rw [plPour, xor_flip r1 (by omega), room_step W hcap r0 hm h, rpush]
  refine pour_eq hcap hl hm W' (fun q hq => hr q (List.mem_cons_of_mem _ hq)) hn.2 (fun q hq => ?_)
  have q0 := (hr q (List.mem_cons_of_mem _ hq)).1
  rw [rd_set (by omega) (by omega) (by omega), if_neg (fun e => hn.1 (by rw [e]; exact List.mem_map_of_mem hq))]
  exact hf q (List.mem_cons_of_mem _ hq)
theorem ix_first {room : List Int} {least : Int} : ∀ {w : List Int} (i : Int), (∃ r ∈ w, rd room r < least) → ∃ j : Nat, plIx room least w i = i + (j : Int) ∧ j < w.length ∧ ∀ r ∈ w.take j, least ≤ rd room r
 | [], i, ⟨r, hr, _⟩ => by cases hr
 | q :: w, i, ⟨r, hr, h⟩ => by
  rw [plIx]
  by_cases c : rd room q < least
  ·exact ⟨0, by rw [if_pos c]; omega, by simp, fun x hx => by simp at hx⟩
  ·rw [if_neg c]
   have hr' : r ∈ w := by
    rcases List.mem_cons.1 hr with rfl | hr
    ·exact absurd h c
    ·exact hr
   obtain ⟨j, h1, h2, h3⟩ := ix_first (i + 1) ⟨r, hr', h⟩
   refine ⟨j + 1, by rw [h1]; omega, by simp; omega, fun x hx => ?_⟩
   rw [List.take_succ_cons] at hx
   rcases List.mem_cons.1 hx with rfl | hx
   ·omega
   ·exact h3 x hx
end
section
variable {l : List S30} {L : List Int} {s t n least : Int} {up g w : List Int}
theorem led_room (H : LL l L n up) (W : Within l g) (hcap : ∀ a ∈ l, a.f2 < 1000000000000) (hp : RPath l s w t) (hw : ∀ r ∈ w, r ∈ L) (hne : w ≠ []) (h1 : 1 ≤ least) (ha : ∀ r ∈ w, least ≤ rd (roomOf l g) r) :
  least ≤ mostOf (roomOf l g) w ∧ mostOf (roomOf l g) w < 1000000000000 ∧ Fits l g (mostOf (roomOf l g) w) w ∧ Within l (rpush g (mostOf (roomOf l g) w) w) ∧
  (∀ q ∈ L, rd (roomOf l (rpush g (mostOf (roomOf l g) w) w)) q = rd (roomOf l g) q - if q ∈ w then mostOf (roomOf l g) w else 0) ∧
  (∀ q, InR l q → (∀ p ∈ L, p / 2 ≠ q / 2) → rd (roomOf l (rpush g (mostOf (roomOf l g) w) w)) q = rd (roomOf l g) q) ∧
  ∃ r ∈ w, rd (roomOf l (rpush g (mostOf (roomOf l g) w) w)) r = 0 := by
 have hlen := W.len
 have hin : ∀ r ∈ w, InR l r := fun r hr => (H.mem r (hw r hr)).1
 have hnd := LL.arcs H hp hw
 obtain ⟨m, hm⟩ : ∃ m, mostOf (roomOf l g) w = m := ⟨_, rfl⟩
 have hle := mostOf_le (room := roomOf l g) (w := w)
 obtain ⟨x, hx, ex⟩ := mostOf_in (room := roomOf l g) hne
 rw [hm] at hle ex ⊢
 have m1 : least ≤ m := by rw [ex]; exact ha x hx
 have fits : Fits l g m w := fun r hr => by
  have r0 := hin r hr
  have h2 := hle r hr
  have hb := within_rd W (i := r / 2) (by have := r0.1; omega) (by have := r0.2; omega)
  rw [room_at W hcap r0] at h2
  unfold rm
  by_cases c : r % 2 = 1
  ·rw [if_pos c] at h2 ⊢; omega
  ·rw [if_neg c] at h2 ⊢; omega
 have W2 := rpush_within W hin hnd fits
 have m2 : m < 1000000000000 := by
  have x0 := hin x hx
  have hb := within_rd W (i := x / 2) (by have := x0.1; omega) (by have := x0.2; omega)
  have hc := hcap _ (rdT_mem (l := l) (i := x / 2) (by have := x0.1; omega) (by have := x0.2; omega))
  rw [ex, room_at W hcap x0]
  split <;> omega
 have hrp : ∀ i, 0 ≤ i → rd (rpush g m w) i = rd g i + dm m i w := fun i hi => rpush_rd (fun r hr => by have := hin r hr; unfold InR at this; omega) i hi
 have hq1 : ∀ q ∈ L, rd (roomOf l (rpush g m w)) q = rd (roomOf l g) q - if q ∈ w then m else 0 := fun q hq => by
  have q0 := (H.mem q hq).1
  rw [room_at W2 hcap q0, room_at W hcap q0, hrp _ (by have := q0.1; omega)]
  by_cases c : q ∈ w
  ·rw [if_pos c, dm_in hnd q c]
   unfold rm
   by_cases c2 : q % 2 = 1
   ·rw [if_pos c2, if_pos c2, if_pos c2]; omega
   ·rw [if_neg c2, if_neg c2, if_neg c2]; omega
  ·rw [if_neg c, dm_not (fun hc => by
    obtain ⟨p, hp1, hp2⟩ := List.mem_map.1 hc
    exact c (same_arc H (hw p hp1) hq hp2 ▸ hp1))]
   simp
 refine ⟨m1, m2, fits, W2, hq1, fun q q0 hq => ?_, x, hx, ?_⟩
 ·rw [room_at W2 hcap q0, room_at W hcap q0, hrp _ (by have := q0.1; omega), dm_not (fun hc => by
   obtain ⟨p, hp1, hp2⟩ := List.mem_map.1 hc
   exact hq p (hw p hp1) hp2)]
  simp
 ·rw [hq1 x (hw x hx), if_pos hx, ex]; omega
end
section
variable {l : List S30} {L : List Int} {s t n least : Int} {up g w : List Int}
theorem push_ok (H : LL l L n up) (W : Within l g) (hcap : ∀ a ∈ l, a.f2 < 1000000000000) (hl : l.length ≤ 2000) (hp : RPath l s w t) (hw : ∀ r ∈ w, r ∈ L) (hne : w ≠ []) (h1 : 1 ≤ least) (ha : ∀ r ∈ w, least ≤ rd (roomOf l g) r) :
  ∃ j, plPush (roomOf l g) least w = some (mostOf (roomOf l g) w, roomOf l (rpush g (mostOf (roomOf l g) w) w), w.take j) ∧ ∀ r ∈ w.take j, least ≤ rd (roomOf l (rpush g (mostOf (roomOf l g) w) w)) r := by
 have hin : ∀ r ∈ w, InR l r := fun r hr => (H.mem r (hw r hr)).1
 have hrl : (roomOf l g).length = 2 * l.length := roomOf_len W.len
 obtain ⟨m1, m2, fits, W2, _, _, x, hx, ex⟩ := led_room H W hcap hp hw hne h1 ha
 have hpour := pour_eq hcap hl (m := mostOf (roomOf l g) w) (by omega) W hin (LL.arcs H hp hw) fits
 obtain ⟨j, j1, j2, j3⟩ := ix_first (room := roomOf l (rpush g (mostOf (roomOf l g) w) w)) (least := least) 0 ⟨x, hx, by omega⟩
 refine ⟨j, ?_, j3⟩
 unfold plPush
 rw [if_neg (fun e => hne (List.length_eq_zero_iff.1 e)), if_pos]
 ·show (if 0 ≤ plIx (plPour (mostOf (roomOf l g) w) w (roomOf l g)) least w 0 then some (mostOf (roomOf l g) w, plPour (mostOf (roomOf l g) w) w (roomOf l g), w.take (plIx (plPour (mostOf (roomOf l g) w) w (roomOf l g)) least w 0).toNat) else none) = _
  rw [hpour, if_pos (by omega), j1, show (0 + (j : Int)).toNat = j by omega]
 ·refine List.all_eq_true.2 (fun r hr => decide_eq_true ?_)
  obtain ⟨r0, r1⟩ := hin r hr
  rw [xor_flip r0 (by omega), hrl]
  unfold flipT
  split <;> omega
theorem Wk.led {room room' : List Int} {ts : List (List Int)} {walk : List Int} {j : Nat} (W : Wk l L s t n least room ts walk) (hm : ∀ q ∈ L, rd room' q ≤ rd room q) (hj : ∀ r ∈ walk.take j, least ≤ rd room' r) : Wk l L s t n least room' ts (walk.take j) :=
 ⟨W.tsl, fun v v0 vn => by
  obtain ⟨pre, h1, h2⟩ := W.row v v0 vn
  refine ⟨pre, h1, fun q hq => ?_⟩
  have hqL := (rowOf_mem.1 (show q ∈ rowOf l L v by rw [h1]; exact List.mem_append_left _ hq)).1
  rcases h2 q hq with h | h
  ·exact .inl (by have := hm q hqL; omega)
  ·exact .inr h, (W.on.take j).keep (fun _ _ => rfl) hj⟩
end
def openC (L room : List Int) (least : Int) : Nat := (L.filter (fun r => decide (least ≤ rd room r))).length
theorem openC_le {room room' : List Int} {least : Int} : ∀ {L : List Int}, (∀ q ∈ L, rd room' q ≤ rd room q) → openC L room' least ≤ openC L room least
 | [], _ => Nat.le_refl _
 | q :: L, h => by
  have ih := openC_le (L := L) (least := least) (fun x hx => h x (List.mem_cons_of_mem _ hx))
  have hq := h q List.mem_cons_self
  unfold openC at ih ⊢
  by_cases c : least ≤ rd room' q
  ·rw [List.filter_cons_of_pos (by simpa using c), List.filter_cons_of_pos (by simp; omega), List.length_cons, List.length_cons]
   omega
  ·rw [List.filter_cons_of_neg (by simpa using c)]
   by_cases c2 : least ≤ rd room q
   ·rw [List.filter_cons_of_pos (by simpa using c2), List.length_cons]
    omega
   ·rw [List.filter_cons_of_neg (by simpa using c2)]
    exact ih
theorem openC_lt {room room' : List Int} {least r : Int} : ∀ {L : List Int}, (∀ q ∈ L, rd room' q ≤ rd room q) → r ∈ L → least ≤ rd room r → rd room' r < least → openC L room' least < openC L room least
 | [], _, h, _, _ => by cases h
 | q :: L, h, hr, h1, h2 => by
  have hL := fun x hx => h x (List.mem_cons_of_mem q hx)
  have hq := h q List.mem_cons_self
  rcases List.mem_cons.1 hr with rfl | hr
  ·have ih := openC_le (L := L) (least := least) hL
   unfold openC at ih ⊢
   rw [List.filter_cons_of_neg (by simp; omega), List.filter_cons_of_pos (by simpa using h1), List.length_cons]
   omega
  ·have ih := openC_lt hL hr h1 h2
   unfold openC at ih ⊢
   by_cases c : least ≤ rd room' q
   ·rw [List.filter_cons_of_pos (by simpa using c), List.filter_cons_of_pos (by simp; omega), List.length_cons, List.length_cons]
    omega
   ·rw [List.filter_cons_of_neg (by simpa using c)]
    by_cases c2 : least ≤ rd room q
    ·rw [List.filter_cons_of_pos (by simpa using c2), List.length_cons]
     omega
    ·rw [List.filter_cons_of_neg (by simpa using c2)]
     exact ih
theorem openC_len {L room : List Int} {least : Int} : openC L room least ≤ L.length := List.length_filter_le _ _
def Chain (l : List S30) (L : List Int) (s t least : Int) : List Int → List S61 → List Int → Prop
 | g, [], g' => g' = g
 | g, w :: ws, g' => First l L t least (roomOf l g) s w.f0 ∧ w.f1 = mostOf (roomOf l g) w.f0 ∧ Chain l L s t least (rpush g w.f1 w.f0) ws g'
section
variable {l : List S30} {L : List Int} {s t n least : Int} {up g : List Int}
theorem led_one (H : LL l L n up) (R : Right n s t l) (hcap : ∀ a ∈ l, a.f2 < 1000000000000) (h1 : 1 ≤ least) (F : IsFlow n s t l g) {w : List Int} (hw : First l L t least (roomOf l g) s w) :
  w ≠ [] ∧ least ≤ mostOf (roomOf l g) w ∧ mostOf (roomOf l g) w < 1000000000000 ∧ Fits l g (mostOf (roomOf l g) w) w ∧ IsFlow n s t l (rpush g (mostOf (roomOf l g) w) w) ∧
  (∀ q ∈ L, rd (roomOf l (rpush g (mostOf (roomOf l g) w) w)) q ≤ rd (roomOf l g) q) ∧ (∀ q ∈ L, rd (roomOf l (rpush g (mostOf (roomOf l g) w) w)) q = rd (roomOf l g) q - if q ∈ w then mostOf (roomOf l g) w else 0) ∧
  (∀ q, InR l q → (∀ p ∈ L, p / 2 ≠ q / 2) → rd (roomOf l (rpush g (mostOf (roomOf l g) w) w)) q = rd (roomOf l g) q) ∧ openC L (roomOf l (rpush g (mostOf (roomOf l g) w) w)) least < openC L (roomOf l g) least ∧
  ∃ r ∈ w, rd (roomOf l (rpush g (mostOf (roomOf l g) w) w)) r = 0 := by
 obtain ⟨hp, ha⟩ := hw.path
 have hne : w ≠ [] := fun e => by
  subst e
  exact R.ne hp
 have hwL : ∀ r ∈ w, r ∈ L := fun r hr => (ha r hr).1
 obtain ⟨m1, m2, fits, W2, h2, h3, x, hx, ex⟩ := led_room H F.within hcap hp hwL hne h1 (fun r hr => (ha r hr).2)
 have hle : ∀ q ∈ L, rd (roomOf l (rpush g (mostOf (roomOf l g) w) w)) q ≤ rd (roomOf l g) q := fun q hq => by
  rw [h2 q hq]
  split <;> omega
 exact ⟨hne, m1, m2, fits, rpush_flow F hp (fun r hr => (H.mem r (hwL r hr)).1) (LL.arcs H hp hwL) fits, hle, h2, h3, openC_lt hle (hwL x hx) (ha x hx).2 (by omega), x, hx, ex⟩
theorem run_ok (H : LL l L n up) (R : Right n s t l) (hcap : ∀ a ∈ l, a.f2 < 1000000000000) (h1 : 1 ≤ least) : ∀ (c : Nat) (g : List Int) (ts : List (List Int)) (walk : List Int) (ws : List S61), openC L (roomOf l g) least ≤ c → IsFlow n s t l g → Wk l L s t n least (roomOf l g) ts walk → tot ts ≤ L.length → ws.length + c ≤ 1000000 →
  ∃ g' ws', (∀ K f, (n.toNat + 1) * L.length + n.toNat < K → c < f → plRun l s t least K f (roomOf l g) ts walk ws = some (roomOf l g', ws ++ ws')) ∧ IsFlow n s t l g' ∧ Chain l L s t least g ws' g' ∧ ¬ Ways l L t least (roomOf l g') s ∧ ws'.length ≤ c := by
 have hsn := R.sn
 have hs1 := R.s1
 have hst := R.ne
 intro c
 induction c with
 | zero =>
  intro g ts walk ws hc F W htot hlen
  have hmul := Nat.mul_le_mul_left (n.toNat + 1) htot
  obtain ⟨b, ts', walk', hn, W', ht, hb1, hb2⟩ := next_run H R.arcs ⟨hs1, hsn⟩ R.n500 ((n.toNat + 1) * L.length + n.toNat) ts walk W (by omega)
  cases b with
  | true =>
   exfalso
   have hw := W'.first H R.arcs (by omega) hsn W'.on (hb1 rfl)
   have := (led_one H R hcap h1 F hw).2.2.2.2.2.2.2.2.1
   omega
  | false =>
   obtain ⟨e1, e2, e3⟩ := hb2 rfl
   refine ⟨g, [], fun K f hK hf => ?_, F, rfl, fun ⟨x, x1, x2⟩ => dead_cut H R.arcs W' x (by omega) hsn e3 e2 x1 x2, Nat.le_refl _⟩
   obtain ⟨f, rfl⟩ : ∃ k, f = k + 1 := ⟨f - 1, by omega⟩
   rw [plRun, hn K hK]
   simp
 | succ c ih =>
  intro g ts walk ws hc F W htot hlen
  have hmul := Nat.mul_le_mul_left (n.toNat + 1) htot
  obtain ⟨b, ts', walk', hn, W', ht, hb1, hb2⟩ := next_run H R.arcs ⟨hs1, hsn⟩ R.n500 ((n.toNat + 1) * L.length + n.toNat) ts walk W (by omega)
  cases b with
  | false =>
   obtain ⟨e1, e2, e3⟩ := hb2 rfl
   refine ⟨g, [], fun K f hK hf => ?_, F, rfl, fun ⟨x, x1, x2⟩ => dead_cut H R.arcs W' x (by omega) hsn e3 e2 x1 x2, Nat.zero_le _⟩
   obtain ⟨f, rfl⟩ : ∃ k, f = k + 1 := ⟨f - 1, by omega⟩
   rw [plRun, hn K hK]
   simp
  | true =>
   have hw := W'.first H R.arcs (by omega) hsn W'.on (hb1 rfl)
   obtain ⟨hne, m1, m2, fits, F2, hle, _, _, hlt, _⟩ := led_one H R hcap h1 F hw
   obtain ⟨hp, ha⟩ := hw.path
   obtain ⟨j, hpush, hj⟩ := push_ok H F.within hcap R.len hp (fun r hr => (ha r hr).1) hne h1 (fun r hr => (ha r hr).2)
   obtain ⟨g', ws', i1, i2, i3, i4, i5⟩ := ih (rpush g (mostOf (roomOf l g) walk') walk') ts' (walk'.take j) (ws ++ [⟨walk', mostOf (roomOf l g) walk'⟩]) (by omega) F2 (W'.led hle hj) (by omega) (by rw [List.length_append, List.length_singleton]; omega)
   refine ⟨g', ⟨walk', mostOf (roomOf l g) walk'⟩ :: ws', fun K f hK hf => ?_, i2, ⟨hw, rfl, i3⟩, i4, by rw [List.length_cons]; omega⟩
   obtain ⟨f, rfl⟩ : ∃ k, f = k + 1 := ⟨f - 1, by omega⟩
   rw [plRun, hn K hK]
   simp only [Option.bind_some, if_true]
   rw [if_pos (by omega), hpush]
   simp only [Option.bind_some]
   rw [i1 K f hK (by omega), List.append_assoc]
   rfl
end
theorem tot_fold {fr : Int → Int} : ∀ (L : List Int) (ts : List (List Int)), tot (L.foldl (Go.Proofs.YtdiaedecnfbgdaaW.Mine.trAdd fr) ts) ≤ tot ts + L.length
 | [], ts => Nat.le_refl _
 | r :: L, ts => by
  have h := tot_fold (fr := fr) L (Go.Proofs.YtdiaedecnfbgdaaW.Mine.trAdd fr ts r)
  have h2 : ∀ (ts : List (List Int)) (i : Nat), tot (ts.set i (ts.getD i [] ++ [r])) ≤ tot ts + 1 := by
   intro ts
   induction ts with
   | nil => intro i; simp [tot]
   | cons x ts ih =>
    intro i
    cases i with
    | zero => simp [tot]; omega
    | succ i =>
     have := ih i
     simp only [tot, List.set_cons_succ, List.getD_cons_succ, List.map_cons, List.sum_cons] at this ⊢
     omega
  have h3 := h2 ts (fr r).toNat
  rw [List.foldl_cons, List.length_cons]
  have h4 : tot (Go.Proofs.YtdiaedecnfbgdaaW.Mine.trAdd fr ts r) ≤ tot ts + 1 := h3
  omega
theorem tot_nils (m : Nat) : tot (List.replicate m []) = 0 := by
 induction m with
 | zero => rfl
 | succ m ih => rw [List.replicate_succ]; simp only [tot, List.map_cons, List.sum_cons, List.length_nil] at ih ⊢; omega
theorem ld_sorted {l : List S30} {room up : List Int} {least : Int} : ∀ m : Nat, (ld l room least up m).Pairwise (· < ·)
 | 0 => List.Pairwise.nil
 | m + 1 => by
  refine List.pairwise_append.2 ⟨ld_sorted m, ?_, fun a ha b hb => ?_⟩
  ·split
   ·exact List.pairwise_singleton _ _
   ·exact List.Pairwise.nil
  ·have := (ld_mem m).1 ha
   split at hb
   ·obtain rfl := List.mem_singleton.1 hb
    omega
   ·cases hb
section
variable {l : List S30} {s t n least : Int} {up f : List Int}
theorem ld_LL {room : List Int} (hg : ∀ a ∈ l, GoodArc n a) (U : IsUp n s l room least up) : LL l (ld l room least up (2 * l.length)) n up :=
 ⟨fun r hr => by
  obtain ⟨h0, h1, h2, h3, h4⟩ := (ld_mem _).1 hr
  have q : InR l r := ⟨h0, by omega⟩
  obtain ⟨f1, fn, t1, tn⟩ := ends_range hg q
  have a := U.rng (fromOf l r) (by omega) fn
  have b := U.rng (toOf l r) (by omega) tn
  exact ⟨q, by omega, h4, by omega⟩, ld_sorted _⟩
theorem Wk.start {L : List Int} {room : List Int} (H : LL l L n up) (hg : ∀ a ∈ l, GoodArc n a) (hn : 0 ≤ n) : Wk l L s t n least room (plRows l (n + 1).toNat L) [] ∧ tot (plRows l (n + 1).toNat L) ≤ L.length := by
 obtain ⟨h1, h2⟩ := plRows_get (l := l) (n := n) (L := L) hn (fun r hr => by
  obtain ⟨f1, fn, _, _⟩ := ends_range hg (H.mem r hr).1
  omega)
 refine ⟨⟨h1, fun v v0 vn => ⟨[], by rw [h2 v v0]; rfl, fun q hq => by cases hq⟩, trivial⟩, ?_⟩
 have := tot_fold (fr := lvFrom l) L (List.replicate (n + 1).toNat [])
 rw [tot_nils] at this
 unfold plRows
 omega
theorem out_eq {g : List Int} (W : Within l g) (hcap : ∀ a ∈ l, a.f2 < 1000000000000) : plOut (roomOf l g) l.length = g := by
 have hlen := W.len
 refine List.ext_getElem (by simp [plOut, hlen]) (fun i h1 h2 => ?_)
 have := (roomOf_rd W hcap (i := (i : Int)) (by omega) (by omega)).2
 simp only [plOut, List.getElem_map, List.getElem_range]
 rw [this, rd_get h2]
theorem block_ev (R : Right n s t l) (F : IsFlow n s t l f) (hcap : ∀ a ∈ l, a.f2 < 1000000000000) (h1 : 1 ≤ least) (hup : Ev (fun k => level_Levels.f k n s t l f least) (up, 0)) (U : IsUp n s l (roomOf l f) least up) :
  ∃ g ws, Ev (fun k => plain_Block.f k n s t l f least) (g, ws, 0) ∧ IsFlow n s t l g ∧ Chain l (ld l (roomOf l f) least up (2 * l.length)) s t least f ws g ∧ ¬ Ways l (ld l (roomOf l f) least up (2 * l.length)) t least (roomOf l g) s ∧ ws.length ≤ (ld l (roomOf l f) least up (2 * l.length)).length := by
 have hld := leads_ev R F hup U
 have H := ld_LL R.arcs U
 have hLl := ld_len (l := l) (room := roomOf l f) (up := up) (least := least) (2 * l.length)
 have hroom := room_ev R F
 have hlen : (roomOf l f).length = 2 * l.length := roomOf_len F.1.len
 have hR := R.len
 have hn2 := R.n2
 have hn5 := R.n500
 have hs1 := R.s1
 have hsn := R.sn
 generalize hLd : ld l (roomOf l f) least up (2 * l.length) = L at *
 obtain ⟨W, ht⟩ := Wk.start (s := s) (t := t) (least := least) (room := roomOf l f) H R.arcs (by omega)
 have hoc := openC_len (L := L) (room := roomOf l f) (least := least)
 obtain ⟨g, ws, i1, i2, i3, i4, i5⟩ := run_ok H R hcap h1 L.length f _ [] [] hoc F W ht (by simp; omega)
 refine ⟨g, ws, ?_, i2, i3, i4, i5⟩
 unfold plain_Block.f
 refine Ev.bind hld ?_
 simp only [if_true]
 refine Ev.bind hroom ?_
 have hfit : lvFit n s l (roomOf l f) = true := by
  simp only [lvFit, Bool.and_eq_true, decide_eq_true_eq, List.all_eq_true]
  refine ⟨⟨by omega, by omega, by omega, hsn, hR, hlen⟩, fun a ha => ?_⟩
  obtain ⟨g0, g1, g2, g3, _⟩ := R.arcs a ha
  omega
 have hfl := F.1.len
 have hok : (lvFit n s l (roomOf l f) && (decide (L.length ≤ 1000000 ∧ f.length ≤ l.length) && L.all fun r => decide (0 ≤ r ∧ r < ((roomOf l f).length : Int)))) = true := by
  rw [hfit, decide_eq_true (show L.length ≤ 1000000 ∧ f.length ≤ l.length by omega), Bool.true_and, Bool.true_and]
  refine List.all_eq_true.2 (fun r h => decide_eq_true ?_)
  obtain ⟨a, b⟩ := (H.mem r h).1
  omega
 refine ⟨(n.toNat + 1) * L.length + n.toNat + L.length + 1, fun k hk => ?_⟩
 show (if _ = true then _ else none) = _
 rw [if_pos hok, i1 k k (by omega) (by omega), hfl]
 simp only [Option.bind_some, List.nil_append]
 rw [out_eq i2.within hcap]
theorem next_first {L g : List Int} (H : LL l L n up) (R : Right n s t l) : ∃ b w, (∀ K, (n.toNat + 1) * L.length + n.toNat < K → ∃ ts', plNext l s t least (roomOf l g) K (plRows l (n + 1).toNat L) [] = some (b, ts', w)) ∧
  (b = true → First l L t least (roomOf l g) s w) ∧ (b = false → w = [] ∧ ¬ Ways l L t least (roomOf l g) s) := by
 have hn2 := R.n2
 have hs1 := R.s1
 have hsn := R.sn
 obtain ⟨W, ht⟩ := Wk.start (s := s) (t := t) (least := least) (room := roomOf l g) H R.arcs (by omega)
 have hmul := Nat.mul_le_mul_left (n.toNat + 1) ht
 obtain ⟨b, ts', walk', hn, W', _, hb1, hb2⟩ := next_run H R.arcs ⟨hs1, hsn⟩ R.n500 ((n.toNat + 1) * L.length + n.toNat) _ [] W (by omega)
 refine ⟨b, walk', fun K hK => ⟨ts', hn K hK⟩, fun hb => W'.first H R.arcs (by omega) hsn W'.on (hb1 hb), fun hb => ?_⟩
 obtain ⟨e1, e2, e3⟩ := hb2 hb
 exact ⟨e1, fun ⟨x, x1, x2⟩ => dead_cut H R.arcs W' x (by omega) hsn e3 e2 x1 x2⟩
end
section
variable {l : List S30} {L : List Int} {s t n least : Int} {up : List Int}
theorem chain_room (H : LL l L n up) (R : Right n s t l) (hcap : ∀ a ∈ l, a.f2 < 1000000000000) (h1 : 1 ≤ least) : ∀ {ws : List S61} {g g' : List Int}, IsFlow n s t l g → Chain l L s t least g ws g' →
  (∀ q ∈ L, rd (roomOf l g') q ≤ rd (roomOf l g) q) ∧ (∀ q, InR l q → (∀ p ∈ L, p / 2 ≠ q / 2) → rd (roomOf l g') q = rd (roomOf l g) q)
 | [], g, g', _, h => by
  have e : g' = g := h
  subst e
  exact ⟨fun _ _ => Int.le_refl _, fun _ _ _ => rfl⟩
 | w :: ws, g, g', F, ⟨hw, e, h⟩ => by
  obtain ⟨hne, m1, m2, fits, F2, hle, _, h3, hlt, _⟩ := led_one H R hcap h1 F hw
  rw [← e] at F2 hle h3
  obtain ⟨i1, i2⟩ := chain_room H R hcap h1 F2 h
  exact ⟨fun q hq => Int.le_trans (i1 q hq) (hle q hq), fun q q0 hq => (i2 q q0 hq).trans (h3 q q0 hq)⟩
end
section
variable {l : List S30} {s t n least least' : Int} {up up' f g : List Int}
theorem farther (R : Right n s t l) (U : IsUp n s l (roomOf l f) least up) (hr : ∀ q, InR l q → (∀ p ∈ ld l (roomOf l f) least up (2 * l.length), p / 2 ≠ q / 2) → rd (roomOf l g) q = rd (roomOf l f) q)
  (hll : least ≤ least') (U' : IsUp n s l (roomOf l g) least' up') : ∀ (k : Nat) (v : Int), 0 ≤ v → v ≤ n → rd up' v = (k : Int) →
   0 ≤ rd up v ∧ rd up v ≤ (k : Int) ∧ (rd up v = (k : Int) → ∃ w, RPath l s w v ∧ ∀ r ∈ w, Adm (ld l (roomOf l f) least up (2 * l.length)) (roomOf l g) least r) := by
 have H := ld_LL R.arcs U
 intro k
 induction k with
 | zero =>
  intro v v0 vn e
  have hv := U'.zero v v0 vn e
  subst hv
  have := U.src
  exact ⟨by omega, by omega, fun _ => ⟨[], rfl, fun r hr => by cases hr⟩⟩
 | succ k ih =>
  intro v v0 vn e
  obtain ⟨r, r0, r1, r2, r3⟩ := U'.pred v v0 vn (by omega)
  obtain ⟨f1, fn, t1, tn⟩ := ends_range R.arcs r0
  obtain ⟨i1, i2, i3⟩ := ih (fromOf l r) (by omega) fn (by omega)
  have key : 0 ≤ rd up (toOf l r) ∧ rd up (toOf l r) ≤ rd up (fromOf l r) + 1 ∧ (rd up (toOf l r) = rd up (fromOf l r) + 1 → r ∈ ld l (roomOf l f) least up (2 * l.length)) := by
   by_cases c : ∃ p ∈ ld l (roomOf l f) least up (2 * l.length), p / 2 = r / 2
   ·obtain ⟨p, hp, e2⟩ := c
    obtain ⟨p0, p1, p2, p3⟩ := H.mem p hp
    by_cases c2 : p = r
    ·subst c2
     exact ⟨by omega, by omega, fun _ => hp⟩
    ·have h0 := p0.1
     have h1 := r0.1
     simp only [fromOf, toOf] at p1 p2 i1 i2 ⊢
     rw [e2] at p1 p2
     by_cases c3 : r % 2 = 1
     ·have d : ¬ p % 2 = 1 := by omega
      rw [if_neg d] at p1
      rw [if_neg d, if_neg d] at p2
      rw [if_pos c3] at i1 i2
      rw [if_pos c3, if_pos c3]
      exact ⟨by omega, by omega, fun h => by omega⟩
     ·have d : p % 2 = 1 := by omega
      rw [if_pos d] at p1
      rw [if_pos d, if_pos d] at p2
      rw [if_neg c3] at i1 i2
      rw [if_neg c3, if_neg c3]
      exact ⟨by omega, by omega, fun h => by omega⟩
   ·have e2 := hr r r0 (fun p hp e2 => c ⟨p, hp, e2⟩)
    rw [e2] at r1
    have h := U.step r r0 (by omega) i1
    exact ⟨h.1, h.2, fun h2 => (ld_mem _).2 ⟨r0.1, by have := r0.2; omega, by omega, by omega, h2⟩⟩
  rw [r2] at key
  refine ⟨key.1, by omega, fun h => ?_⟩
  obtain ⟨w, w1, w2⟩ := i3 (by omega)
  refine ⟨w ++ [r], by rw [← r2]; exact w1.snoc rfl, fun q hq => ?_⟩
  rcases List.mem_append.1 hq with hq | hq
  ·exact w2 q hq
  ·obtain rfl := List.mem_singleton.1 hq
   exact ⟨key.2.2 (by omega), by omega⟩
theorem ways_iff (R : Right n s t l) (U : IsUp n s l (roomOf l f) least up) : Ways l (ld l (roomOf l f) least up (2 * l.length)) t least (roomOf l f) s ↔ 0 ≤ rd up t := by
 have h1 := R.t1
 constructor
 ·rintro ⟨w, w1, w2⟩
  have := (LL.levels (ld_LL R.arcs U) w1 (fun r hr => (w2 r hr).1)).1
  have := U.src
  omega
 ·intro h
  obtain ⟨_, _, c⟩ := farther R U (fun _ _ _ => rfl) (Int.le_refl _) U (rd up t).toNat t (by omega) R.tn (by omega)
  exact c (by omega)
theorem chain_nil (R : Right n s t l) (U : IsUp n s l (roomOf l f) least up) {ws : List S61} (hc : Chain l (ld l (roomOf l f) least up (2 * l.length)) s t least f ws g) (hb : ¬ Ways l (ld l (roomOf l f) least up (2 * l.length)) t least (roomOf l g) s) : (ws ≠ []) ↔ 0 ≤ rd up t := by
 rw [← ways_iff R U]
 cases ws with
 | nil =>
  have e : g = f := hc
  subst e
  exact ⟨fun h => absurd rfl h, fun h => absurd h hb⟩
 | cons w ws => exact ⟨fun _ => hc.1.ways, fun _ => by simp⟩
theorem sink_farther (R : Right n s t l) (hcap : ∀ a ∈ l, a.f2 < 1000000000000) (h1 : 1 ≤ least) (F : IsFlow n s t l f) (U : IsUp n s l (roomOf l f) least up) {ws : List S61} (hc : Chain l (ld l (roomOf l f) least up (2 * l.length)) s t least f ws g)
  (hb : ¬ Ways l (ld l (roomOf l f) least up (2 * l.length)) t least (roomOf l g) s) (hll : least ≤ least') (U' : IsUp n s l (roomOf l g) least' up') (h : 0 ≤ rd up' t) : 0 ≤ rd up t ∧ rd up t < rd up' t := by
 have t1 := R.t1
 obtain ⟨a, b, c⟩ := farther R U (chain_room (ld_LL R.arcs U) R hcap h1 F hc).2 hll U' (rd up' t).toNat t (by omega) R.tn (by omega)
 refine ⟨a, ?_⟩
 apply Classical.byContradiction
 intro hn
 exact hb (c (by omega))
end
theorem room_lt {l : List S30} {f : List Int} (W : Within l f) (hcap : ∀ a ∈ l, a.f2 < 1000000000000) {r : Int} (h : InR l r) : rd (roomOf l f) r < 1000000000000 := by
 have hb := within_rd W (i := r / 2) (by have := h.1; omega) (by have := h.2; omega)
 have hc := hcap _ (rdT_mem (l := l) (i := r / 2) (by have := h.1; omega) (by have := h.2; omega))
 rw [room_at W hcap h]
 split <;> omega
theorem same_loop {a b : List Int} (hl : a.length = b.length) (hm : a.length ≤ 1000000) (d : Nat) : ∀ i : Nat, i + d = a.length → Ev (fun k => racewayref5_Same.l0 k a b (i : Int)) (decide (a.drop i = b.drop i)) := by
 induction d with
 | zero =>
  intro i hi
  refine Ev.step (f := fun _ => some (decide (a.drop i = b.drop i))) (fun k => ?_) (Ev.now _)
  simp only [racewayref5_Same.l0]
  rw [if_neg (by omega), List.drop_of_length_le (by omega), List.drop_of_length_le (by omega)]
  simp
 | succ d ih =>
  intro i hi
  have hia : i < a.length := by omega
  have hib : i < b.length := by omega
  by_cases c : a[i] = b[i]
  ·have e : decide (a.drop i = b.drop i) = decide (a.drop (i + 1) = b.drop (i + 1)) := by
    have e3 : (a.drop i = b.drop i) ↔ (a.drop (i + 1) = b.drop (i + 1)) := by
     rw [List.drop_eq_getElem_cons hia, List.drop_eq_getElem_cons hib, c]
     exact ⟨fun h => (List.cons.inj h).2, fun h => by rw [h]⟩
    exact decide_eq_decide.2 e3
   rw [e]
   refine Ev.step (fun k => ?_) (ih (i + 1) (by omega))
   simp only [racewayref5_Same.l0]
   rw [if_pos (by omega), if_pos (by omega), if_pos (by omega), rd_get hia, rd_get hib, if_pos c, wrap_id (by omega) (by omega)]
   rfl
  ·have e : decide (a.drop i = b.drop i) = false := by
    refine decide_eq_false (fun h => c ?_)
    rw [List.drop_eq_getElem_cons hia, List.drop_eq_getElem_cons hib] at h
    exact (List.cons.inj h).1
   rw [e]
   refine Ev.step (f := fun _ => some false) (fun k => ?_) (Ev.now _)
   simp only [racewayref5_Same.l0]
   rw [if_pos (by omega), if_pos (by omega), if_pos (by omega), rd_get hia, rd_get hib, if_neg c]
theorem same_ev (a b : List Int) (hm : a.length ≤ 1000000) : Ev (fun k => racewayref5_Same.f k a b) (decide (a = b)) := by
 by_cases hl : a.length = b.length
 ·have := same_loop hl hm a.length 0 (by omega)
  rw [List.drop_zero, List.drop_zero] at this
  refine Ev.congr (fun k => ?_) this
  unfold racewayref5_Same.f
  rw [if_pos (by omega)]
  rfl
 ·have e : decide (a = b) = false := decide_eq_false (fun h => hl (by rw [h]))
  rw [e]
  refine Ev.congr (fun k => ?_) (Ev.now _)
  unfold racewayref5_Same.f
  rw [if_neg (by omega)]
theorem samei_loop {a b : List Int} (hl : a.length = b.length) (hm : a.length ≤ 1000000) (d : Nat) : ∀ i : Nat, i + d = a.length → Ev (fun k => racewaylaw8_same.l0 k a b (i : Int)) (decide (a.drop i = b.drop i)) := by
 induction d with
 | zero =>
  intro i hi
  refine Ev.step (f := fun _ => some (decide (a.drop i = b.drop i))) (fun k => ?_) (Ev.now _)
  simp only [racewaylaw8_same.l0]
  rw [if_neg (by omega), List.drop_of_length_le (by omega), List.drop_of_length_le (by omega)]
  simp
 | succ d ih =>
  intro i hi
  have hia : i < a.length := by omega
  have hib : i < b.length := by omega
  by_cases c : a[i] = b[i]
  ·have e : decide (a.drop i = b.drop i) = decide (a.drop (i + 1) = b.drop (i + 1)) := by
    have e3 : (a.drop i = b.drop i) ↔ (a.drop (i + 1) = b.drop (i + 1)) := by
     rw [List.drop_eq_getElem_cons hia, List.drop_eq_getElem_cons hib, c]
     exact ⟨fun h => (List.cons.inj h).2, fun h => by rw [h]⟩
    exact decide_eq_decide.2 e3
   rw [e]
   refine Ev.step (fun k => ?_) (ih (i + 1) (by omega))
   simp only [racewaylaw8_same.l0]
   rw [if_pos (by omega), if_pos (by omega), if_pos (by omega), rd_get hia, rd_get hib, if_pos c, wrap_id (by omega) (by omega)]
   rfl
  ·have e : decide (a.drop i = b.drop i) = false := by
    refine decide_eq_false (fun h => c ?_)
    rw [List.drop_eq_getElem_cons hia, List.drop_eq_getElem_cons hib] at h
    exact (List.cons.inj h).1
   rw [e]
   refine Ev.step (f := fun _ => some false) (fun k => ?_) (Ev.now _)
   simp only [racewaylaw8_same.l0]
   rw [if_pos (by omega), if_pos (by omega), if_pos (by omega), rd_get hia, rd_get hib, if_neg c]
theorem samei_ev (a b : List Int) (hm : a.length ≤ 1000000) : Ev (fun k => racewaylaw8_same.f k a b) (decide (a = b)) := by
 by_cases hl : a.length = b.length
 ·have := samei_loop hl hm a.length 0 (by omega)
  rw [List.drop_zero, List.drop_zero] at this
  refine Ev.congr (fun k => ?_) this
  unfold racewaylaw8_same.f
  rw [if_pos (by omega)]
  rfl
 ·have e : decide (a = b) = false := decide_eq_false (fun h => hl (by rw [h]))
  rw [e]
  refine Ev.congr (fun k => ?_) (Ev.now _)
  unfold racewaylaw8_same.f
  rw [if_neg (by omega)]
end Go.Proofs.Ytdiaedecnfbgdaa.Pure
