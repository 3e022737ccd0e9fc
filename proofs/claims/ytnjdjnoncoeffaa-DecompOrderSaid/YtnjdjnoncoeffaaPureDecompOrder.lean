/- Plain lists and numbers, for the law DecompOrder: no program and no memory. -/
-- slimm
import Derived.Test.YtnjdjnoncoeffaaPDecompOrderx0
import Derived.Test.YtnjdjnoncoeffaaPDecompOrderx24
import Derived.Test.YtnjdjnoncoeffaaPDecompOrderx25
import Derived.Test.YtnjdjnoncoeffaaPDecompOrderx27
import Derived.Test.YtnjdjnoncoeffaaMDecompOrderAll
set_option linter.unusedVariables false
namespace Go.Proofs.Ytnjdjnoncoeffaa.Pure
open Go.RowKit Go.Proofs.Ytnjdjnoncoeffaa.PDecompOrder Go.Proofs.YtnjdjnoncoeffaaW.PrintWords Go.Proofs.YtnjdjnoncoeffaaW.PrintLast
theorem right_am {n s t : Int} {l : List S30} {k : Int} {xs : List Int} {a b : Int} (h : decomp_right.f n s t l k xs a = some true) (hb : 1 ≤ b) : decomp_right.f n s t l k xs b = some true := by
 unfold decomp_right.f at h ⊢
 by_cases c : dcSized l xs = true
 ·rw [if_pos c] at h ⊢
  unfold dcRight at h ⊢
  rw [if_neg (show ¬ b < 1 by omega)]
  by_cases c2 : a < 1
  ·rw [if_pos c2] at h
   simp at h
  ·rw [if_neg c2] at h
   exact h
 ·rw [if_neg c] at h
  cases h
theorem right_zero {n s t : Int} {l : List S30} {k : Int} {xs : List Int} {a : Int} (h : decomp_right.f n s t l k xs a = some true) : decomp_right.f n s t l k xs 0 = some false := by
 unfold decomp_right.f at h ⊢
 by_cases c : dcSized l xs = true
 ·rw [if_pos c]
  unfold dcRight
  rw [if_pos (by decide)]
 ·rw [if_neg c] at h
  cases h
theorem tot_app : ∀ (a b : List S36) (r : Int), tot (a ++ b) r = tot a r + tot b r
 | [], b, r => by show tot b r = 0 + tot b r; omega
 | x :: a, b, r => by
  show (if r ∈ x.f1 then x.f2 else 0) + tot (a ++ b) r = ((if r ∈ x.f1 then x.f2 else 0) + tot a r) + tot b r
  rw [tot_app a b r, Int.add_assoc]
theorem tot_ge {n s t : Int} {l : List S30} : ∀ {its : List S36}, (∀ it ∈ its, ItOk n s t l it) → ∀ {x : S36} {r : Int}, x ∈ its → r ∈ x.f1 → x.f2 ≤ tot its r
 | [], _, _, _, h, _ => by cases h
 | it :: its, h, x, r, hx, hr => by
  have h0 : ∀ it ∈ its, ItOk n s t l it := fun y hy => h y (List.mem_cons_of_mem _ hy)
  have h1 := tot_nonneg h0 r
  have h2 := (h it List.mem_cons_self).am
  show x.f2 ≤ (if r ∈ it.f1 then it.f2 else 0) + tot its r
  rcases List.mem_cons.1 hx with rfl | hx
  ·rw [if_pos hr]; omega
  ·have h3 := tot_ge h0 hx hr
   split <;> omega
def least (l : List S30) : List Int → Int → Int
 | [], a => a
 | r :: xs, a => least l xs (mn a (rd_T30 l r).f2)
theorem mn_cases (a b : Int) : mn a b ≤ a ∧ mn a b ≤ b ∧ (mn a b = a ∨ mn a b = b) := by
 unfold mn
 split
 ·exact ⟨by omega, by omega, .inr rfl⟩
 ·exact ⟨by omega, by omega, .inl rfl⟩
theorem least_spec {l : List S30} : ∀ (xs : List Int) (a : Int), least l xs a ≤ a ∧ (∀ r ∈ xs, least l xs a ≤ (rd_T30 l r).f2) ∧ (least l xs a = a ∨ ∃ r ∈ xs, least l xs a = (rd_T30 l r).f2)
 | [], a => ⟨Int.le_refl _, (fun r h => by cases h), .inl rfl⟩
 | x :: xs, a => by
  obtain ⟨h1, h2, h3⟩ := least_spec (l := l) xs (mn a (rd_T30 l x).f2)
  obtain ⟨m1, m2, m3⟩ := mn_cases a (rd_T30 l x).f2
  have e : least l (x :: xs) a = least l xs (mn a (rd_T30 l x).f2) := rfl
  rw [e]
  refine ⟨Int.le_trans h1 m1, fun r hr => ?_, ?_⟩
  ·rcases List.mem_cons.1 hr with rfl | hr
   ·exact Int.le_trans h1 m2
   ·exact h2 r hr
  ·rcases h3 with h3 | ⟨r, hr, h3⟩
   ·rcases m3 with m3 | m3
    ·exact .inl (h3.trans m3)
    ·exact .inr ⟨x, List.mem_cons_self, h3.trans m3⟩
   ·exact .inr ⟨r, List.mem_cons_of_mem _ hr, h3⟩
theorem over_l2 {n s t am kd : Int} {l : List S30} {its : List S36} {tl i : Int} {xs : List Int} (hll : l.length ≤ 2000) (hxl : xs.length ≤ 2000) (hin : ∀ r ∈ xs, InL l r) (hnod : xs.Nodup) (ham : 0 ≤ am ∧ am ≤ 10000000000000)
  (hcap : ∀ r ∈ xs, 0 ≤ (rd_T30 l r).f2 ∧ (rd_T30 l r).f2 ≤ 10000000000000) (e : Nat) :
  ∀ (j : Nat) (o : List Int), j + e = xs.length → o.length = l.length → (∀ r ∈ xs.drop j, rd o r = 0) → (∃ r ∈ xs.drop j, (rd_T30 l r).f2 < am) →
   Ev (fun k => decomp_Sum.l2 k o its tl i xs (xs.length : Int) (j : Int) n s t l kd xs am) (([] : List Int), 3) := by
 induction e with
 | zero =>
  intro j o hj _ _ h
  obtain ⟨r, hr, _⟩ := h
  rw [List.drop_of_length_le (by omega)] at hr
  cases hr
 | succ e ih =>
  intro j o hj ho hz hex
  have hjl : j < xs.length := by omega
  obtain ⟨a, ha⟩ : ∃ a, xs[j] = a := ⟨_, rfl⟩
  have hdj : xs.drop j = a :: xs.drop (j + 1) := by rw [← ha]; exact List.drop_eq_getElem_cons hjl
  have hma : a ∈ xs := by rw [← ha]; exact List.getElem_mem hjl
  have hain := hin a hma
  have hca := hcap a hma
  have hnda : a ∉ xs.drop (j + 1) := by
   have h_ := hnod.sublist (List.drop_sublist j xs)
   rw [hdj] at h_
   exact (List.nodup_cons.1 h_).1
  have hza : rd o a = 0 := hz a (by rw [hdj]; exact List.mem_cons_self)
  have hrd : rd xs (j : Int) = a := by rw [rd_get hjl, ha]
  have w1 : wrap64 ((rd_T30 l a).f2 - rd o a) = (rd_T30 l a).f2 := by rw [hza, Int.sub_zero]; exact wrap_id (by omega) (by omega)
  have w2 : wrap64 (rd o a + am) = am := by rw [hza, Int.zero_add]; exact wrap_id (by omega) (by omega)
  have q1 := hain.1
  have q2 := hain.2
  by_cases c : am > (rd_T30 l a).f2
  ·refine Ev.step (f := fun _ => some (([] : List Int), 3)) (fun k => ?_) (Ev.now _)
   simp only [decomp_Sum.l2]
   rw [if_pos (by omega), if_pos (by omega), if_pos (by omega), hrd, if_pos q1, if_pos q2, if_pos (by omega), w1, if_pos c]
  ·have hnext := ih (j + 1) (o.set a.toNat am) (by omega) (by rw [List.length_set]; exact ho) (fun r hr => by
    have hrl := hin r (List.mem_of_mem_drop hr)
    rw [rd_set q1 (by omega) hrl.1, if_neg (fun h => hnda (by rw [h]; exact hr))]
    exact hz r (by rw [hdj]; exact List.mem_cons_of_mem _ hr)) (by
    obtain ⟨r, hr, hlt⟩ := hex
    rw [hdj] at hr
    rcases List.mem_cons.1 hr with rfl | hr
    ·exact absurd hlt (by omega)
    ·exact ⟨r, hr, hlt⟩)
   refine Ev.step (fun k => ?_) hnext
   simp only [decomp_Sum.l2]
   rw [if_pos (by omega), if_pos (by omega), if_pos (by omega), hrd, if_pos q1, if_pos q2, if_pos (by omega), w1, if_neg c, w2, wrap_succ (by omega)]
theorem rdI_one (x : S36) : rd_T36 [x] 0 = x := rfl
theorem sum_one {n s t : Int} {l : List S30} {x : S36} {res : List Int × Int} (R : Right n s t l) (hx : decomp_right.f n s t l x.f0 x.f1 x.f2 = some true)
  (h : Ev (fun k => decomp_Sum.l2 k (List.replicate l.length 0) [x] 1 0 x.f1 (x.f1.length : Int) 0 n s t l x.f0 x.f1 x.f2) res) : Ev (fun k => decomp_Sum.f k n s t l [x]) res := by
 have hll := R.len
 have h1 : Ev (fun k => decomp_Sum.l1 k (List.replicate l.length 0) [x] 1 0 n s t l) res := by
  refine Ev.step (fun k => ?_) h
  simp only [decomp_Sum.l1]
  rw [if_pos (by omega), if_pos (by omega), if_pos (by rw [List.length_singleton]; omega), rdI_one]
 have h2 : Ev (fun k => decomp_Sum.l0 k [x] [x] 1 1 n s t l) res := by
  refine Ev.step (fun k => ?_) h1
  simp only [decomp_Sum.l0]
  rw [if_neg (by omega), if_pos (by omega), if_pos (by omega)]
  rfl
 have h3 : Ev (fun k => decomp_Sum.l0 k [x] [x] 1 0 n s t l) res := by
  refine Ev.step (fun k => ?_) h2
  simp only [decomp_Sum.l0]
  rw [if_pos (by omega), if_pos (by omega), if_pos (by rw [List.length_singleton]; omega), rdI_one, hx]
  simp only [Option.bind_some, if_true]
  rw [show wrap64 (0 + 1) = 1 from wrap_id (by omega) (by omega)]
 unfold decomp_Sum.f
 rw [R.check]
 simp only [Option.bind_some, if_true]
 exact h3
theorem sum_none {n s t : Int} {l : List S30} {x : S36} (R : Right n s t l) (hx : decomp_right.f n s t l x.f0 x.f1 x.f2 = some false) : Ev (fun k => decomp_Sum.f k n s t l [x]) (([] : List Int), 1) := by
 have h3 : Ev (fun k => decomp_Sum.l0 k [x] [x] 1 0 n s t l) (([] : List Int), 1) := by
  refine Ev.step (f := fun _ => some (([] : List Int), 1)) (fun k => ?_) (Ev.now _)
  simp only [decomp_Sum.l0]
  rw [if_pos (by omega), if_pos (by omega), if_pos (by rw [List.length_singleton]; omega), rdI_one, hx]
  simp only [Option.bind_some]
  rw [if_neg (by decide)]
 unfold decomp_Sum.f
 rw [R.check]
 simp only [Option.bind_some, if_true]
 exact h3
theorem sum_fits {n s t : Int} {l : List S30} {x : S36} (R : Right n s t l) (h : ItOk n s t l x) (hf : ∀ r ∈ x.f1, x.f2 ≤ (rd_T30 l r).f2) : ∃ g, Ev (fun k => decomp_Sum.f k n s t l [x]) (g, 0) := by
 have ham := h.am
 have W0 : Within l (List.replicate l.length 0) := Within.zeros (fun a ha => (R.arcs a ha).2.2.2.2)
 have W : Within l (push (List.replicate l.length 0) x.f2 x.f1) := push_within (by omega) W0 h.nod (fun j hj => by
  have hj' := h.rng j hj
  have := hf j hj
  refine ⟨hj'.1, hj'.2, ?_⟩
  rw [rd_rep]
  omega)
 refine ⟨_, sum_ev R W (its := [x]) (fun it hit => by rw [List.mem_singleton] at hit; rw [hit]; exact h) (by rw [List.length_singleton]; omega) (fun r hr => ?_)⟩
 rw [push_rd (fun j hj => ⟨(h.rng j hj).1, by rw [List.length_replicate]; exact (h.rng j hj).2⟩) h.nod r hr, rd_rep]
 show 0 + (if r ∈ x.f1 then x.f2 else 0) = (if r ∈ x.f1 then x.f2 else 0) + 0
 rw [Int.zero_add, Int.add_zero]
theorem order_end {n s t : Int} {l : List S30} {f : List Int} {x : S36} (R : Right n s t l) (hfl : f.length ≤ 1000000) (hcap : ∀ a ∈ l, a.f2 < 1000000000000) (h : ItOk n s t l x) (hpos : ∀ r ∈ x.f1, 1 ≤ (rd_T30 l r).f2) (hne : x.f1 ≠ []) (d : Nat) :
  ∀ (i : Nat) (room : Int), i + d = x.f1.length → least l (x.f1.drop i) room = least l x.f1 1099511627776 → Ev (fun k => racewaylaw15_DecompOrder.l1 k f f 0 room (i : Int) n s t l x.f0 x.f1 x.f2) true := by
 have hxl : x.f1.length ≤ 2000 := by
  have h_ := nodup_bound (k := l.length) h.nod h.rng
  have := R.len
  omega
 induction d with
 | zero =>
  intro i room hi hroom
  rw [List.drop_of_length_le (by omega)] at hroom
  have e0 : room = least l x.f1 1099511627776 := hroom
  obtain ⟨s1, s2, s3⟩ := least_spec (l := l) x.f1 1099511627776
  rw [← e0] at s1 s2 s3
  have hc : ∀ r ∈ x.f1, 0 ≤ (rd_T30 l r).f2 ∧ (rd_T30 l r).f2 < 1000000000000 := fun r hr => by
   have hr' := h.rng r hr
   have h1 := hcap _ (rdT_mem hr'.1 hr'.2)
   have h2 := hpos r hr
   exact ⟨by omega, h1⟩
  obtain ⟨r, hr, er⟩ : ∃ r ∈ x.f1, room = (rd_T30 l r).f2 := by
   rcases s3 with s3 | s3
   ·obtain ⟨a, ha⟩ := List.exists_mem_of_ne_nil _ hne
    have h1 := s2 a ha
    have h2 := hc a ha
    omega
   ·exact s3
  have hr1 := hpos r hr
  have hr2 := hc r hr
  have w1 : wrap64 (room + 1) = room + 1 := wrap_id (by omega) (by omega)
  have o1 : ItOk n s t l ⟨x.f0, x.f1, room⟩ := ⟨right_am (b := room) h.right (show 1 ≤ room by omega), h.rng, h.nod, show 1 ≤ room by omega⟩
  obtain ⟨g, hg⟩ := sum_fits R o1 s2
  have o2 : decomp_right.f n s t l x.f0 x.f1 (room + 1) = some true := right_am h.right (by omega)
  have hg2 := sum_one (x := ⟨x.f0, x.f1, room + 1⟩) R o2 (over_l2 (its := [⟨x.f0, x.f1, room + 1⟩]) (tl := 1) (i := 0) (kd := x.f0) R.len hxl h.rng h.nod (show 0 ≤ room + 1 ∧ room + 1 ≤ 10000000000000 from ⟨by omega, by omega⟩) (fun r hr => by have := hc r hr; exact ⟨this.1, by omega⟩) x.f1.length 0 (List.replicate l.length 0) (by omega) (List.length_replicate ..) (fun r _ => rd_rep _ _) ⟨r, by rw [List.drop_zero]; exact hr, show (rd_T30 l r).f2 < room + 1 by omega⟩)
  have hg3 := sum_none (x := ⟨x.f0, x.f1, 0⟩) R (right_zero h.right)
  have hsame := same_ev f f hfl
  rw [decide_eq_true rfl] at hsame
  refine Ev.step (f := ?g) (fun k => ?h) ?e
  case h =>
   simp only [racewaylaw15_DecompOrder.l1]
   rw [if_neg (by omega), w1]
  case e =>
   refine Ev.bind hg ?_
   refine Ev.bind hg2 ?_
   refine Ev.bind hg3 ?_
   simp only [if_true]
   refine Ev.bind hsame ?_
   simp only [if_true]
   exact Ev.now _
 | succ d ih =>
  intro i room hi hroom
  have hil : i < x.f1.length := by omega
  obtain ⟨a, ha⟩ : ∃ a, x.f1[i] = a := ⟨_, rfl⟩
  have hdi : x.f1.drop i = a :: x.f1.drop (i + 1) := by rw [← ha]; exact List.drop_eq_getElem_cons hil
  have hrd : rd x.f1 (i : Int) = a := by rw [rd_get hil, ha]
  have hain := h.rng a (by rw [← ha]; exact List.getElem_mem hil)
  have q1 := hain.1
  have q2 := hain.2
  rw [hdi] at hroom
  have hn := ih (i + 1) (mn room (rd_T30 l a).f2) (by omega) hroom
  refine Ev.step (fun k => ?_) hn
  simp only [racewaylaw15_DecompOrder.l1]
  rw [if_pos (by omega), if_pos (by omega), hrd, if_pos q1, if_pos q2, wrap_succ (by omega)]
theorem zeros_loop {n s t a4 : Int} {l : List S30} {f z : List Int} {its : List S36} {res : Bool} (hz : ∀ r, rd z r = 0) (hzl : z.length ≤ 1000000) (hres : Ev (fun k => racewaylaw15_DecompOrder.l0 k a4 f its z (z.length : Int) n s t l) res) (d : Nat) :
  ∀ i : Nat, i + d = z.length → Ev (fun k => racewaylaw15_DecompOrder.l0 k a4 f its z (i : Int) n s t l) res := by
 induction d with
 | zero =>
  intro i hi
  have e : i = z.length := by omega
  rw [e]
  exact hres
 | succ d ih =>
  intro i hi
  refine Ev.step (fun k => ?_) (ih (i + 1) (by omega))
  simp only [racewaylaw15_DecompOrder.l0]
  rw [if_pos (by omega), if_pos (by omega), hz, if_pos rfl, wrap_succ (by omega)]
theorem DecompOrder : racewaylaw15_DecompOrder.Pure := by
 intro a0 a1 l2 l3 a4 w0 w1 _ hw2 _ _ hw3 w4
 obtain ⟨b0, b1⟩ := wf_bounds w4
 obtain ⟨n, s, t, arcs, hmade, hn2, hn9, R, hal, _, hcap⟩ := made_ev w0 w1 hw2
 obtain ⟨f, F, _, hrouted⟩ := routed_ev R (fun a ha => by have := hcap a ha; omega) hw3
 obtain ⟨m, hm⟩ : ∃ m : Nat, (m : Int) = n + 1 := ⟨(n + 1).toNat, by omega⟩
 obtain ⟨v, hv⟩ : ∃ v, exc arcs f t = v := ⟨_, rfl⟩
 have V : Vf n s t arcs f v := ⟨F, hv, by rw [ends_zero R F, hv]⟩
 obtain ⟨its, hp⟩ := peel_all R hm _ f _ V (Nat.le_refl _)
 have hil : its.length ≤ 1000000 := by
  have h1 := hp.few
  have h2 := cntP_len f
  have h3 := F.within.len
  have h4 : Nz v ≤ 1 := by unfold Nz; split <;> omega
  omega
 have hfl : f.length ≤ 1000000 := by
  have h3 := F.within.len
  omega
 have hsplit := peel_split R hm V hp
 obtain ⟨ht, hok⟩ := peel_tot R hp F.within.nonneg
 have W0 : Within arcs (List.replicate arcs.length 0) := Within.zeros (fun a ha => (R.arcs a ha).2.2.2.2)
 have hsum0 := sum_ev R W0 (its := []) (fun it h => by cases h) (by rw [List.length_nil]; omega) (fun r _ => by rw [rd_rep]; rfl)
 have hend : Ev (fun k => racewaylaw15_DecompOrder.l0 k a4 f its (List.replicate arcs.length 0) ((List.replicate arcs.length (0 : Int)).length : Int) n s t arcs) true := by
  by_cases hn : its.length = 0
  ·refine Ev.step (f := fun _ => some true) (fun k => ?_) (Ev.now _)
   simp only [racewaylaw15_DecompOrder.l0]
   rw [if_neg (by omega), if_pos (by omega)]
  ·obtain ⟨p0, p1⟩ := pk_range (c := a4) (n := (its.length : Int)) (by omega)
   have hpick := pick_eq b0 b1 (show 0 < (its.length : Int) by omega)
   obtain ⟨j, hj⟩ : ∃ j : Nat, pk a4 (its.length : Int) = (j : Int) := ⟨(pk a4 (its.length : Int)).toNat, by omega⟩
   rw [hj] at hpick p0 p1
   have hjl : j < its.length := by omega
   have hokj := hok its[j] (List.getElem_mem hjl)
   have hoks : ∀ it ∈ its.drop j ++ its.take j, ItOk n s t arcs it := fun it hit => by
    rcases List.mem_append.1 hit with h | h
    ·exact hok it (List.mem_of_mem_drop h)
    ·exact hok it (List.mem_of_mem_take h)
   have hll : (its.drop j ++ its.take j).length = its.length := by rw [List.length_append, List.length_drop, List.length_take]; omega
   have htt : ∀ r, 0 ≤ r → rd f r = tot (its.drop j ++ its.take j) r := fun r hr => by
    rw [tot_app, Int.add_comm, ← tot_app, List.take_append_drop]
    exact ht r hr
   have hsum := sum_ev R F.within hoks (by omega) htt
   have hpos : ∀ r ∈ its[j].f1, 1 ≤ (rd_T30 arcs r).f2 := fun r hr => by
    have hin := hokj.rng r hr
    have h1 := tot_ge hok (List.getElem_mem hjl) hr
    rw [← ht r hin.1] at h1
    have h2 := hokj.am
    obtain ⟨q, rfl, hq⟩ := hin.nat
    have hlen := F.within.len
    have hb := F.within.get q hq (by omega)
    rw [rd_get (by omega)] at h1
    rw [rdT_get hq]
    omega
   have hne : its[j].f1 ≠ [] := fun e => by
    have h_ := hokj.right
    unfold decomp_right.f at h_
    rw [e] at h_
    split at h_
    ·unfold dcRight at h_
     have := hokj.am
     rw [if_neg (by omega), if_pos (show ([] : List Int).length = 0 from rfl)] at h_
     cases h_
    ·cases h_
   have hlast := order_end R hfl (fun a ha => by have := hcap a ha; omega) hokj hpos hne its[j].f1.length 0 1099511627776 (by omega) (by rw [List.drop_zero])
   refine Ev.step (f := fun k => (decomp_Sum.f k n s t arcs (its.drop j ++ its.take j)).bind fun b => racewaylaw15_DecompOrder.l1 k f b.1 b.2 1099511627776 0 n s t arcs its[j].f0 its[j].f1 its[j].f2) (fun k => ?h) ?e
   case h =>
    simp only [racewaylaw15_DecompOrder.l0]
    rw [if_neg (by omega), if_neg (by omega), hpick]
    simp only [Option.bind_some]
    rw [if_pos (by omega), if_pos (by omega), Int.toNat_natCast, List.nil_append, if_pos (by rw [List.length_nil, List.length_drop]; omega), if_pos (by rw [List.length_drop, List.length_take]; omega), rdI_get hjl]
    simp only [if_pos p1]
   case e =>
    refine Ev.bind hsum ?_
    exact hlast
 have hl0 := zeros_loop (fun r => rd_rep arcs.length r) (by rw [List.length_replicate]; omega) hend (List.replicate arcs.length (0 : Int)).length 0 (by omega)
 have hj : Ev (fun k => racewaylaw15_DecompOrder.j0 k a4 f its (List.replicate arcs.length 0) (((List.replicate arcs.length (0 : Int)).length : Int) != (arcs.length : Int)) n s t arcs) true := by
  refine Ev.step (fun k => ?_) hl0
  simp only [racewaylaw15_DecompOrder.j0]
  rw [List.length_replicate, bne_self_eq_false, if_neg (by decide)]
  rfl
 have h : Ev (fun k => racewaylaw15_DecompOrder.f k a0 a1 l2 l3 a4) true := by
  unfold racewaylaw15_DecompOrder.f
  refine Ev.bind shown15_ev ?_
  simp only [if_true]
  refine Ev.bind hmade ?_
  refine Ev.bind hrouted ?_
  refine Ev.bind hsplit ?_
  refine Ev.bind hsum0 ?_
  simp only [if_true]
  exact hj
 exact Ev.rounds h
end Go.Proofs.Ytnjdjnoncoeffaa.Pure
