/- Plain lists and numbers, for the law PlainFills: no program and no memory. -/
-- slimm
import Derived.Test.YtdiaedecnfbgdaaPPlainFillsx0
import Derived.Test.YtdiaedecnfbgdaaPPlainFillsx6
import Derived.Test.YtdiaedecnfbgdaaPPlainFillsx23
import Derived.Test.YtdiaedecnfbgdaaMPlainFillsAll
set_option linter.unusedVariables false
namespace Go.Proofs.Ytdiaedecnfbgdaa.Pure
open Go.RowKit Go.Proofs.Ytdiaedecnfbgdaa.PPlainFills Go.Proofs.YtdiaedecnfbgdaaW.PrintWords Go.Proofs.YtdiaedecnfbgdaaW.PrintLast
theorem nodup_div : ∀ {w : List Int}, (w.map (· / 2)).Nodup → w.Nodup
 | [], _ => List.nodup_nil
 | a :: w, h => by
  rw [List.map_cons, List.nodup_cons] at h
  exact List.nodup_cons.2 ⟨fun hm => h.1 (List.mem_map.2 ⟨a, hm, rfl⟩), nodup_div h.2⟩
theorem fills_l2 {x : Int} {ws : List S61} {R p w : List Int} {i : Nat} (hi : i + 1 < ws.length) (hil : ws.length ≤ 1000000) (hp : (rd_T61 ws (i : Int)).f0 = p) (hwl : w.length ≤ 1000000)
  (hnext : Ev (fun k => racewaylaw8_PlainFills.l0 k x ws R ((i + 2 : Nat) : Int)) true) (d : Nat) :
  ∀ j : Nat, j + d = w.length → LexUp (p.drop j) (w.drop j) → Ev (fun k => racewaylaw8_PlainFills.l2 k x ws R ((i + 1 : Nat) : Int) w false (j : Int)) true := by
 induction d with
 | zero =>
  intro j hj h
  rw [List.drop_of_length_le (show w.length ≤ j by omega)] at h
  cases hh : p.drop j <;> rw [hh] at h <;> exact h.elim
 | succ d ih =>
  intro j hj h
  have hjw : j < w.length := by omega
  have hjp : j < p.length := by
   apply Classical.byContradiction
   intro hn
   rw [List.drop_of_length_le (by omega)] at h
   cases hh : w.drop j <;> rw [hh] at h <;> exact h.elim
  obtain ⟨a, ha⟩ : ∃ a, p[j] = a := ⟨_, rfl⟩
  obtain ⟨b, hb⟩ : ∃ b, w[j] = b := ⟨_, rfl⟩
  have ra : rd p (j : Int) = a := by rw [rd_get hjp, ha]
  have rb : rd w (j : Int) = b := by rw [rd_get hjw, hb]
  rw [List.drop_eq_getElem_cons hjp, List.drop_eq_getElem_cons hjw, ha, hb] at h
  have c0 : ((i + 1 : Nat) : Int) > 0 := by omega
  have c1 : (0 : Int) ≤ (i : Int) := Int.natCast_nonneg i
  have c2 : (i : Int) < (ws.length : Int) := by omega
  have c3 : (0 : Int) ≤ (j : Int) := Int.natCast_nonneg j
  have c4 : (j : Int) < (p.length : Int) := by omega
  have c5 : (j : Int) < (w.length : Int) := by omega
  have d5 : j + 1 + d = w.length := by omega
  have hw1 : wrap64 (((i + 1 : Nat) : Int) - 1) = (i : Int) := by rw [wrap_id (by omega) (by omega)]; omega
  have hw2 : wrap64 (((i + 1 : Nat) : Int) + 1) = ((i + 2 : Nat) : Int) := by rw [wrap_id (by omega) (by omega)]; omega
  have hw3 : wrap64 ((j : Int) + 1) = ((j + 1 : Nat) : Int) := wrap_succ (by omega)
  have hab : ¬ b < a := by
   have h : a < b ∨ a = b ∧ LexUp (p.drop (j + 1)) (w.drop (j + 1)) := h
   omega
  have hfin : ∀ q : Nat, Ev (fun k => racewaylaw8_PlainFills.l2 k x ws R ((i + 1 : Nat) : Int) w true (q : Int)) true := fun q => by
   refine Ev.step (f := fun k => racewaylaw8_PlainFills.j4 k x ws R ((i + 1 : Nat) : Int) w true (q : Int) false) (fun k => ?_) (Ev.step (fun k => ?_) hnext)
   ·simp only [racewaylaw8_PlainFills.l2]
    rw [if_pos c0]
    simp only [Bool.not_true, ite_self]
   ·simp only [racewaylaw8_PlainFills.j4]
    rw [if_neg (by decide), if_pos trivial, hw2]
  have hrest : Ev (fun k => racewaylaw8_PlainFills.l2 k x ws R ((i + 1 : Nat) : Int) w (decide (b > a)) ((j + 1 : Nat) : Int)) true := by
   have h : a < b ∨ a = b ∧ LexUp (p.drop (j + 1)) (w.drop (j + 1)) := h
   rcases h with h | ⟨e, h⟩
   ·rw [decide_eq_true h]
    exact hfin (j + 1)
   ·rw [decide_eq_false (show ¬ b > a by omega)]
    exact ih (j + 1) d5 h
  refine Ev.step (f := fun k => racewaylaw8_PlainFills.j4 k x ws R ((i + 1 : Nat) : Int) w false (j : Int) true) (fun k => ?_) (Ev.step (fun k => ?_) hrest)
  ·simp only [racewaylaw8_PlainFills.l2]
   rw [if_pos c0, if_pos c5, Bool.not_false]
  ·simp only [racewaylaw8_PlainFills.j4]
   rw [if_pos trivial, hw1, if_pos c1, if_pos c2, if_pos c3, hp, if_pos c4, if_pos c5, ra, rb, if_neg hab, hw3]
theorem fills_l1 {x m : Int} {ws : List S61} {L w : List Int} {rm : Int → Int} {i len : Nat} (hi : i < ws.length) (hw : rd_T61 ws (i : Int) = ⟨w, m⟩) (hwl : w.length ≤ 1000000) (hrng : ∀ r ∈ w, 0 ≤ r ∧ r < (len : Int)) (hL : ∀ q ∈ L, 0 ≤ q) (hwL : ∀ r ∈ w, r ∈ L) (hnd : w.Nodup)
  (hm : 0 ≤ m) (hfit : ∀ r ∈ w, m ≤ rm r ∧ rm r ≤ 1000000000000)
  (hnext : ∀ R : List Int, R.length = len → (∀ q ∈ L, rd R q = rm q - if q ∈ w then m else 0) → Ev (fun k => racewaylaw8_PlainFills.j2 k x ws R (i : Int) w (decide (m < x))) true) (d : Nat) :
  ∀ (j : Nat) (R : List Int) (fl : Bool), j + d = w.length → R.length = len → (∀ q ∈ L, rd R q = rm q - if q ∈ w.take j then m else 0) → (fl = true ∨ ∃ r ∈ w.drop j, rm r - m < x) → Ev (fun k => racewaylaw8_PlainFills.l1 k x ws R (i : Int) w fl (j : Int)) true := by
 induction d with
 | zero =>
  intro j R fl hj hR hq hf
  have hfl : fl = true := by
   rcases hf with hf | ⟨r, hr, _⟩
   ·exact hf
   ·rw [List.drop_of_length_le (by omega)] at hr
    cases hr
  subst hfl
  rw [List.take_of_length_le (show w.length ≤ j by omega)] at hq
  refine Ev.step (fun k => ?_) (hnext R hR hq)
  simp only [racewaylaw8_PlainFills.l1]
  rw [if_neg (by omega), if_pos trivial, if_pos (by omega), if_pos (by omega), hw]
 | succ d ih =>
  intro j R fl hj hR hq hf
  have hjw : j < w.length := by omega
  obtain ⟨a, ha⟩ : ∃ a, w[j] = a := ⟨_, rfl⟩
  have haw : a ∈ w := by rw [← ha]; exact List.getElem_mem hjw
  have ra : rd w (j : Int) = a := by rw [rd_get hjw, ha]
  have hdj : w.drop j = a :: w.drop (j + 1) := by rw [← ha]; exact List.drop_eq_getElem_cons hjw
  have htj : w.take (j + 1) = w.take j ++ [a] := by rw [List.take_succ_eq_append_getElem hjw, ha]
  have hna : a ∉ w.take j := fun hc => by
   have h_ := hnd
   rw [← List.take_append_drop j w, hdj] at h_
   exact (List.nodup_append.1 h_).2.2 a hc a List.mem_cons_self rfl
  have hqa := hq a (hwL a haw)
  rw [if_neg hna] at hqa
  obtain ⟨a0, a1⟩ := hrng a haw
  obtain ⟨f0, f1⟩ := hfit a haw
  have c1 : (j : Int) < (w.length : Int) := by omega
  have c2 : (0 : Int) ≤ (j : Int) := Int.natCast_nonneg j
  have c3 : a < (R.length : Int) := by rw [hR]; exact a1
  have c4 : (0 : Int) ≤ (i : Int) := Int.natCast_nonneg i
  have c5 : (i : Int) < (ws.length : Int) := Int.ofNat_lt.2 hi
  have c6 : ¬ rm a - m < 0 := by clear c1 c2 c3 c4 c5; omega
  have d5 : j + 1 + d = w.length := by clear c1 c2 c3 c4 c5 c6; omega
  have hv : wrap64 (rd R a - m) = rm a - m := by rw [hqa, Int.sub_zero]; exact wrap_id (by omega) (by omega)
  have hq2 : ∀ q ∈ L, rd (R.set a.toNat (rm a - m)) q = rm q - if q ∈ w.take (j + 1) then m else 0 := fun q hqL => by
   rw [rd_set a0 c3 (hL q hqL), htj]
   by_cases c : a = q
   ·subst c
    rw [if_pos rfl, if_pos (List.mem_append_right _ List.mem_cons_self)]
   ·rw [if_neg c, hq q hqL]
    by_cases c2 : q ∈ w.take j
    ·rw [if_pos c2, if_pos (List.mem_append_left _ c2)]
    ·rw [if_neg c2, if_neg (fun h => by
      rcases List.mem_append.1 h with h | h
      ·exact c2 h
      ·exact c (List.mem_singleton.1 h).symm)]
  have hR2 : (R.set a.toNat (rm a - m)).length = len := by rw [List.length_set]; exact hR
  have hw3 : wrap64 ((j : Int) + 1) = ((j + 1 : Nat) : Int) := wrap_succ (by omega)
  cases fl with
  | true =>
   refine Ev.step (fun k => ?_) (ih (j + 1) _ true d5 hR2 hq2 (.inl rfl))
   simp only [racewaylaw8_PlainFills.l1]
   rw [if_pos c1, if_pos c2, ra, if_pos a0, if_pos c3, if_pos c4, if_pos c5, hw]
   simp only [Option.bind_some, if_true, hv]
   rw [if_neg c6, hw3]
  | false =>
   refine Ev.step (fun k => ?_) (ih (j + 1) _ (decide (rm a - m < x)) d5 hR2 hq2 (by
    rcases hf with hf | ⟨r, hr, hlt⟩
    ·cases hf
    ·rw [hdj] at hr
     rcases List.mem_cons.1 hr with rfl | hr
     ·exact .inl (decide_eq_true hlt)
     ·exact .inr ⟨r, hr, hlt⟩))
   simp only [racewaylaw8_PlainFills.l1]
   rw [if_pos c1, if_pos c2, ra, if_pos a0, if_pos c3, if_pos c4, if_pos c5, hw]
   simp only [Option.bind_some, Bool.false_eq_true, if_false, hv]
   rw [if_neg c6, hw3]
def Ahead (l : List S30) (L : List Int) (s t x : Int) (g p : List Int) : Prop :=
 ∃ gp, First l L t x (roomOf l gp) s p ∧ (∀ q ∈ L, rd (roomOf l g) q ≤ rd (roomOf l gp) q) ∧ ∃ r ∈ p, rd (roomOf l g) r < x
theorem Ahead.lex {l : List S30} {L : List Int} {s t x : Int} {g p w : List Int} (hs : L.Pairwise (· < ·)) (h : Ahead l L s t x g p) (hw : First l L t x (roomOf l g) s w) : LexUp p w := by
 obtain ⟨gp, h1, h2, r, hr, hlt⟩ := h
 rcases First.lex hs h2 h1 hw with e | h
 ·subst e
  have := (hw.path.2 r hr).2
  omega
 ·exact h
theorem fills_chain {l : List S30} {L up g' : List Int} {n s t x : Int} {ws : List S61} (H : LL l L n up) (R : Right n s t l) (hcap : ∀ a ∈ l, a.f2 < 1000000000000) (h1 : 1 ≤ x) (hwsl : ws.length ≤ 1000000) :
  ∀ (rest : List S61) (i : Nat) (g rm : List Int), ws.drop i = rest → IsFlow n s t l g → Chain l L s t x g rest g' → rm.length = 2 * l.length → (∀ q ∈ L, rd rm q = rd (roomOf l g) q) →
   (∀ j : Nat, i = j + 1 → Ahead l L s t x g (rd_T61 ws (j : Int)).f0) → Ev (fun k => racewaylaw8_PlainFills.l0 k x ws rm (i : Int)) true
 | [], i, g, rm, hd, _, _, _, _, _ => by
  have hil : ws.length ≤ i := by
   have := congrArg List.length hd
   rw [List.length_drop, List.length_nil] at this
   omega
  refine Ev.step (f := fun _ => some true) (fun k => ?_) (Ev.now _)
  simp only [racewaylaw8_PlainFills.l0]
  rw [if_neg (by omega)]
 | w :: rest, i, g, rm, hd, F, ⟨hw, e, hc⟩, hrl, hrm, hah => by
  have hil : i < ws.length := by
   have := congrArg List.length hd
   rw [List.length_drop, List.length_cons] at this
   omega
  have hwi : rd_T61 ws (i : Int) = w := by
   have h_ := List.drop_eq_getElem_cons hil
   rw [hd] at h_
   have e_ : ws[i] = w := (List.cons.inj h_).1.symm
   simp [rd_T61, hil, e_]
  have hdr : ws.drop (i + 1) = rest := by
   have h_ := List.drop_eq_getElem_cons hil
   rw [hd] at h_
   exact (List.cons.inj h_).2.symm
  obtain ⟨hne, m1, m2, fits, F2, hle, hsub, _, _, z, hz, ez⟩ := led_one H R hcap h1 F hw
  rw [← e] at m1 m2 F2 hle hsub ez
  obtain ⟨hp, ha⟩ := hw.path
  have hwL : ∀ r ∈ w.f0, r ∈ L := fun r hr => (ha r hr).1
  have hnd := nodup_div (LL.arcs H hp hwL)
  have hin : ∀ r ∈ w.f0, InR l r := fun r hr => (H.mem r (hwL r hr)).1
  have hRl := R.len
  have hwl : w.f0.length ≤ 1000000 := by
   have := nodup_bound (k := 2 * l.length) hnd (fun r hr => ⟨(hin r hr).1, by have := (hin r hr).2; omega⟩)
   omega
  refine Ev.step (f := fun k => racewaylaw8_PlainFills.l1 k x ws rm (i : Int) w.f0 false ((0 : Nat) : Int)) (fun k => ?_) ?_
  ·simp only [racewaylaw8_PlainFills.l0]
   rw [if_pos (by omega), if_pos (by omega), hwi]
   rfl
  ·refine fills_l1 (L := L) (rm := fun q => rd (roomOf l g) q) (len := 2 * l.length) (m := w.f1) hil (by rw [hwi]) hwl (fun r hr => ⟨(hin r hr).1, by have := (hin r hr).2; omega⟩) (fun q hq => (H.mem q hq).1.1) hwL hnd (by omega) (fun r hr => ⟨by rw [e]; exact mostOf_le r hr, by have := room_lt F.within hcap (hin r hr); omega⟩) ?_ w.f0.length 0 rm false (by omega) hrl (fun q hq => by rw [List.take_zero, if_neg (by simp), hrm q hq, Int.sub_zero]) (.inr ⟨z, by rw [List.drop_zero]; exact hz, ?_⟩)
   ·intro rm2 hl2 hr2
    have hnext := fills_chain H R hcap h1 hwsl rest (i + 1) (rpush g w.f1 w.f0) rm2 hdr F2 hc hl2 (fun q hq => by rw [hr2 q hq, hsub q hq]) (fun j hj => by
     have ej : j = i := by omega
     subst ej
     rw [hwi]
     exact ⟨g, hw, hle, z, hz, by omega⟩)
    refine Ev.step (f := fun k => racewaylaw8_PlainFills.l2 k x ws rm2 (i : Int) w.f0 ((i : Int) == 0) ((0 : Nat) : Int)) (fun k => ?_) ?_
    ·simp only [racewaylaw8_PlainFills.j2]
     rw [decide_eq_false (show ¬ w.f1 < x by omega), if_neg (by decide)]
     rfl
    ·cases i with
     | zero =>
      refine Ev.step (f := fun k => racewaylaw8_PlainFills.j4 k x ws rm2 ((0 : Nat) : Int) w.f0 true ((0 : Nat) : Int) false) (fun k => ?_) (Ev.step (fun k => ?_) hnext)
      ·simp only [racewaylaw8_PlainFills.l2]
       rw [if_neg (by omega)]
       rfl
      ·simp only [racewaylaw8_PlainFills.j4]
       rw [if_neg (by decide), if_pos trivial, wrap_succ (by omega)]
     | succ j =>
      have hlex := (hah j rfl).lex H.sorted hw
      have e0 : (((j + 1 : Nat) : Int) == 0) = false := by simp; omega
      rw [e0]
      exact fills_l2 hil hwsl rfl hwl hnext w.f0.length 0 (by omega) (by rw [List.drop_zero, List.drop_zero]; exact hlex)
   ·have h3 := hsub z (hwL z hz)
    rw [if_pos hz] at h3
    show rd (roomOf l g) z - w.f1 < x
    omega
theorem PlainFills : racewaylaw8_PlainFills.Pure := by
 intro a0 a1 l2 l3 a4 w0 w1 _ hw2 _ _ hw3 w4
 obtain ⟨x4, y4⟩ := wf_bounds w4
 obtain ⟨n, s, t, l, hmade, n2, n9, R, hl, _, hcap⟩ := made_ev w0 w1 hw2
 have hcap2 : ∀ a ∈ l, a.f2 < 1000000000000 := fun a ha => by have := hcap a ha; omega
 obtain ⟨f, F, _, hrouted⟩ := routed_ev R hcap2 hw3
 have p4 := pk_range (c := a4) (n := 10) (by decide)
 obtain ⟨a, ha⟩ : ∃ a, pk a4 10 = a := ⟨_, rfl⟩
 rw [ha] at p4
 have hwx : wrap64 (1 + a) = 1 + a := wrap_id (by omega) (by omega)
 obtain ⟨p, hp, U⟩ := levels_ev R F (least := 1 + a) (by omega)
 obtain ⟨g, ws, hblk, G, C, hcut, hlm⟩ := block_ev R F hcap2 (by omega) hp U
 have hll := ld_len (l := l) (room := roomOf l f) (up := p) (least := 1 + a) (2 * l.length)
 have hloop := fills_chain (ld_LL R.arcs U) R hcap2 (by omega) (by omega) ws 0 f (roomOf l f) (List.drop_zero ..) F C (roomOf_len F.within.len) (fun _ _ => rfl) (fun j hj => by omega)
 refine Ev.rounds ?_
 unfold racewaylaw8_PlainFills.f
 refine Ev.bind shown8_ev ?_
 simp only [if_true]
 refine Ev.bind hmade ?_
 refine Ev.bind hrouted ?_
 simp only [pick_eq x4 y4 (show (0 : Int) < 10 by decide), ha, Option.bind_some, hwx]
 refine Ev.bind hblk ?_
 simp only [if_true]
 refine Ev.bind (room_ev R F) ?_
 exact hloop
end Go.Proofs.Ytdiaedecnfbgdaa.Pure
