/- Plain lists and numbers, for the law DecompBack: no program and no memory. -/
-- slimm
import Derived.Test.YtnjdjnoncoeffaaPDecompBackx0
import Derived.Test.YtnjdjnoncoeffaaPDecompBackx18
import Derived.Test.YtnjdjnoncoeffaaPDecompBackx28
import Derived.Test.YtnjdjnoncoeffaaMDecompBackAll
set_option linter.unusedVariables false
namespace Go.Proofs.Ytnjdjnoncoeffaa.Pure
open Go.RowKit Go.Proofs.Ytnjdjnoncoeffaa.PDecompBack Go.Proofs.YtnjdjnoncoeffaaW.PrintWords Go.Proofs.YtnjdjnoncoeffaaW.PrintLast
theorem cntP_take {f : List Int} {i : Nat} (h : i < f.length) : cntP (f.take (i + 1)) = cntP (f.take i) + (if 0 < f[i] then 1 else 0) := by
 unfold cntP
 rw [List.take_succ_eq_append_getElem h, List.countP_append, List.countP_cons, List.countP_nil, Nat.zero_add]
 by_cases c : 0 < f[i]
 ·rw [if_pos (decide_eq_true c), if_pos c]
 ·rw [if_neg (by simpa using c), if_neg c]
theorem back_l2 {v : Int} {its back : List S36} {many : Nat} (hm : its.length ≤ many) (hbl : back.length = its.length) (hl : its.length ≤ 1000000) (hk : ∀ it ∈ back, it.f0 ≠ 112) (d : Nat) : ∀ i : Nat, i + d = back.length →
  Ev (fun k => racewaylaw15_DecompBack.l2 k v its (many : Int) v back 0 (i : Int)) true := by
 induction d with
 | zero =>
  intro i hi
  refine Ev.step (f := fun _ => some true) (fun k => ?_) (Ev.now _)
  simp only [racewaylaw15_DecompBack.l2]
  rw [if_neg (by omega), if_pos trivial, if_pos (by omega), if_pos trivial, hbl]
  simp
 | succ d ih =>
  intro i hi
  have hil : i < back.length := by omega
  have h_ := hk back[i] (List.getElem_mem hil)
  refine Ev.step (fun k => ?_) (ih (i + 1) (by omega))
  simp only [racewaylaw15_DecompBack.l2]
  rw [if_pos (by omega), if_pos (by omega), rdI_get hil, if_neg h_, wrap_succ (by omega)]
theorem back_l1 {n s t v : Int} {l : List S30} {f : List Int} {its back : List S36} {many : Nat} (hm : its.length ≤ many) (hbl : back.length = its.length) (hl : its.length ≤ 1000000) (hk : ∀ it ∈ back, it.f0 ≠ 112)
  (hits : ∀ it ∈ its, (it.f0 = 112 ∨ it.f0 = 99) ∧ 1 ≤ it.f2) (hv : v ≤ 4611686018427387903) (hsp : Ev (fun k => decomp_Split.f k n t s l f) (back, 0)) (d : Nat) : ∀ (i : Nat) (led : Int), i + d = its.length → 0 ≤ led → led + ledBy (its.drop i) = v →
   Ev (fun k => racewaylaw15_DecompBack.l1 k f v its (many : Int) led (i : Int) n s t l) true := by
 induction d with
 | zero =>
  intro i led hi h0 hled
  rw [List.drop_of_length_le (by omega)] at hled
  have e : led = v := by have h_ : led + 0 = v := hled; omega
  subst e
  refine Ev.step (f := ?g) (fun k => ?h) ?e
  case h =>
   simp only [racewaylaw15_DecompBack.l1]
   rw [if_neg (by omega)]
  case e =>
   refine Ev.bind hsp ?_
   exact back_l2 hm hbl hl hk back.length 0 (by omega)
 | succ d ih =>
  intro i led hi h0 hled
  have hil : i < its.length := by omega
  obtain ⟨hkd, ham⟩ := hits its[i] (List.getElem_mem hil)
  have hnn := led_nonneg (its := its.drop (i + 1)) (fun x hx => (hits x (List.mem_of_mem_drop hx)).2)
  rw [List.drop_eq_getElem_cons hil] at hled
  have hled2 : led + ((if its[i].f0 = 112 then its[i].f2 else 0) + ledBy (its.drop (i + 1))) = v := hled
  have hj : Ev (fun k => racewaylaw15_DecompBack.j3 k f v its (many : Int) led (i : Int) false n s t l) true := by
   by_cases c : its[i].f0 = 112
   ·rw [if_pos c] at hled2
    refine Ev.step (fun k => ?_) (ih (i + 1) (led + its[i].f2) (by omega) (by omega) (by omega))
    simp only [racewaylaw15_DecompBack.j3]
    rw [if_neg (by decide), if_pos (by omega), if_pos (by omega), rdI_get hil, if_pos c, wrap_id (x := led + its[i].f2) (by omega) (by omega), wrap_succ (by omega)]
   ·rw [if_neg c] at hled2
    refine Ev.step (fun k => ?_) (ih (i + 1) led (by omega) h0 (by omega))
    simp only [racewaylaw15_DecompBack.j3]
    rw [if_neg (by decide), if_pos (by omega), if_pos (by omega), rdI_get hil, if_neg c, wrap_succ (by omega)]
  refine Ev.step (fun k => ?_) hj
  simp only [racewaylaw15_DecompBack.l1]
  rw [if_pos (by omega), if_pos (by omega), rdI_get hil, if_neg (by omega), decide_eq_false (by omega)]
theorem back_l0 {n s t v : Int} {l : List S30} {f : List Int} {its : List S36} (hfl : f.length ≤ 2000) (hend : Ev (fun k => racewaylaw15_DecompBack.l1 k f v its ((cntP f : Nat) : Int) 0 0 n s t l) true) (d : Nat) : ∀ (i : Nat), i + d = f.length →
   Ev (fun k => racewaylaw15_DecompBack.l0 k f v its ((cntP (f.take i) : Nat) : Int) (i : Int) n s t l) true := by
 induction d with
 | zero =>
  intro i hi
  refine Ev.step (fun k => ?_) hend
  simp only [racewaylaw15_DecompBack.l0]
  rw [if_neg (by omega), List.take_of_length_le (by omega)]
 | succ d ih =>
  intro i hi
  have hil : i < f.length := by omega
  have hc := cntP_take hil
  have hle := cntP_len (f.take i)
  rw [List.length_take] at hle
  refine Ev.step (fun k => ?_) (ih (i + 1) (by omega))
  simp only [racewaylaw15_DecompBack.l0]
  rw [if_pos (by omega), if_pos (by omega), rd_get hil]
  by_cases c : 0 < f[i]
  ·rw [if_pos c] at hc
   rw [if_pos c, hc, wrap_succ (by omega), wrap_succ (by omega)]
  ·rw [if_neg c] at hc
   rw [if_neg c, hc, wrap_succ (by omega)]
   rfl
theorem DecompBack : racewaylaw15_DecompBack.Pure := by
 intro a0 a1 l2 l3 l4 w0 w1 _ hw2 _ _ hw3 _ _ hw4
 obtain ⟨n, s, t, arcs, hmade, hn2, hn9, R, hal, _, hcap⟩ := made_ev w0 w1 hw2
 have hcap' : ∀ a ∈ arcs, a.f2 < 1000000000000 := fun a ha => by have := hcap a ha; omega
 obtain ⟨f0, F0, hval0, hrouted⟩ := routed_ev R hcap' hw3
 obtain ⟨f, F, hfe, hcirc⟩ := circled_ev R.len hcap' hw4 F0
 obtain ⟨m, hm⟩ : ∃ m : Nat, (m : Int) = n + 1 := ⟨(n + 1).toNat, by omega⟩
 obtain ⟨v, hv⟩ : ∃ v, exc arcs f t = v := ⟨_, rfl⟩
 have hv0 : 0 ≤ v := by omega
 have V : Vf n s t arcs f v := ⟨F, hv, by rw [ends_zero R F, hv]⟩
 obtain ⟨_, _, hvb⟩ := V.big R
 have hlen := F.within.len
 have hll := R.len
 obtain ⟨its, hp⟩ := peel_all R hm _ f _ V (Nat.le_refl _)
 have hfew := (hp.fewer R).1
 have hcn := cntP_len f
 have hil : its.length ≤ 1000000 := by omega
 have hval := value_flow R F
 rw [hv] at hval
 have hsplit := peel_split R hm V hp
 obtain ⟨ht, hok⟩ := peel_tot R hp F.within.nonneg
 have hsum := sum_ev R F.within hok hil ht
 have hsame := same_ev f f (by omega)
 rw [decide_eq_true rfl] at hsame
 obtain ⟨hled, hits⟩ := hp.paths hv0
 have hback := peel_split R.swap hm V.swap (hp.swap R)
 have hbk : ∀ it ∈ its.map flip, it.f0 ≠ 112 := fun it hit => by
  obtain ⟨x, hx, rfl⟩ := List.mem_map.1 hit
  show (if x.f0 = 112 then (98 : Int) else if x.f0 = 98 then 112 else x.f0) ≠ 112
  rcases (hits x hx).1 with e | e
  ·rw [if_pos e]; decide
  ·rw [if_neg (by omega), if_neg (by omega), e]; decide
 have h1 := back_l1 (n := n) (s := s) (t := t) (l := arcs) (f := f) (its := its) (many := cntP f) hfew (List.length_map ..) hil hbk hits hvb hback its.length 0 0 (by omega) (Int.le_refl _) (by rw [List.drop_zero]; omega)
 have h0 := back_l0 (by omega) h1 f.length 0 (by omega)
 have hj : Ev (fun k => racewaylaw15_DecompBack.j0 k f v its false n s t arcs) true := by
  refine Ev.step (fun k => ?_) h0
  simp only [racewaylaw15_DecompBack.j0]
  rw [if_neg (by decide)]
  rfl
 have h : Ev (fun k => racewaylaw15_DecompBack.f k a0 a1 l2 l3 l4) true := by
  unfold racewaylaw15_DecompBack.f
  refine Ev.bind shown15_ev ?_
  simp only [if_true]
  refine Ev.bind hmade ?_
  refine Ev.bind hrouted ?_
  refine Ev.bind hcirc ?_
  refine Ev.bind hval ?_
  refine Ev.bind hsplit ?_
  refine Ev.bind hsum ?_
  simp only [if_true]
  refine Ev.bind hsame ?_
  exact hj
 exact Ev.rounds h
end Go.Proofs.Ytnjdjnoncoeffaa.Pure
