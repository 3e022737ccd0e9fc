/- Plain lists and numbers, for the law LevelFew: no program and no memory. -/
-- slim
import Derived.Test.YtbppeffcikphcaaPLevelFewx0
import Derived.Test.YtbppeffcikphcaaPLevelFewx7
import Derived.Test.YtbppeffcikphcaaPLevelFewx15
import Derived.Test.YtbppeffcikphcaaMLevelFewAll
set_option linter.unusedVariables false
namespace Go.Proofs.Ytbppeffcikphcaa.Pure
open Go.RowKit Go.Proofs.Ytbppeffcikphcaa.PLevelFew Go.Proofs.YtbppeffcikphcaaW.PrintWords Go.Proofs.YtbppeffcikphcaaW.PrintLast
theorem wrap_nat {i : Nat} (h : i ≤ 1000000) : wrap64 ((i : Int) + 1) = ((i + 1 : Nat) : Int) := wrap_succ h
section
variable {n s t : Int} {l : List S49} {room up : List Int}
/-- Each level below a level that is told is told, too. -/
theorem gapless (hg : ∀ a ∈ l, GoodArc n a) (U : IsUp n s l room 1 up) (d : Nat) : ∀ (v i : Int), 0 ≤ v → v ≤ n → 0 ≤ i → rd up v = i + d → ∃ u, 1 ≤ u ∧ u ≤ n ∧ rd up u = i := by
 induction d with
 | zero =>
  intro v i v0 vn i0 h
  refine ⟨v, ?_, vn, by simpa using h⟩
  by_cases c : v = 0
  ·subst c
   have := U.none0
   omega
  ·omega
 | succ d ih =>
  intro v i v0 vn i0 h
  obtain ⟨r, hr, _, _, hf⟩ := U.pred v v0 vn (by omega)
  obtain ⟨f1, fn, _, _⟩ := ends_range hg hr
  exact ih (fromOf l r) i (by omega) fn i0 (by omega)
theorem few_l3 {on : List Int} {i : Nat} (hil : i < on.length) (hol : on.length ≤ 48) (hon : ∀ j : Int, 0 ≤ j → j < (on.length : Int) → InR l (rd on j) ∧ 0 ≤ rd up (fromOf l (rd on j)) ∧ rd up (toOf l (rd on j)) = rd up (fromOf l (rd on j)) + 1) (hl : l.length ≤ 24)
  (hnext : Ev (fun k => racewaylaw7_LevelFew.l2 k up on ((i + 1 : Nat) : Int) n s t l) true) (d : Nat) : ∀ j : Nat, j + d = i → Ev (fun k => racewaylaw7_LevelFew.l3 k up on (i : Int) (j : Int) n s t l) true := by
 obtain ⟨hr, h0, h1⟩ := hon (i : Int) (by omega) (by omega)
 have hr0 := hr.1
 have hr1 := hr.2
 induction d with
 | zero =>
  intro j hj
  refine Ev.step (fun k => ?_) hnext
  simp only [racewaylaw7_LevelFew.l3]
  rw [if_neg (by omega), wrap_nat (by omega)]
 | succ d ih =>
  intro j hj
  obtain ⟨hq, h2, h3⟩ := hon (j : Int) (by omega) (by omega)
  refine Ev.step (fun k => ?_) (ih (j + 1) (by omega))
  simp only [racewaylaw7_LevelFew.l3]
  have hne : ¬ rd on (j : Int) = Go.bits .xor .i64 (rd on (i : Int)) 1 := fun e => by
   rw [xor_flip hr0 (by omega)] at e
   rw [e, (flip_ends hr0).1, (flip_ends hr0).2] at h3
   omega
  rw [if_pos (by omega), if_pos (by omega), if_pos (by omega), if_pos (by omega), if_pos (by omega), if_neg hne, wrap_nat (by omega)]
theorem few_l2 (R : Right n s t l) (U : IsUp n s l room 1 up) {on : List Int} (hol : on.length ≤ 48) (hon : ∀ j : Int, 0 ≤ j → j < (on.length : Int) → InR l (rd on j) ∧ 0 ≤ rd up (fromOf l (rd on j)) ∧ rd up (toOf l (rd on j)) = rd up (fromOf l (rd on j)) + 1) (hl : l.length ≤ 24) (d : Nat) :
  ∀ i : Nat, i + d = on.length → Ev (fun k => racewaylaw7_LevelFew.l2 k up on (i : Int) n s t l) true := by
 induction d with
 | zero =>
  intro i hi
  refine Ev.step (f := fun _ => some true) (fun k => ?_) (Ev.now _)
  simp only [racewaylaw7_LevelFew.l2]
  rw [if_neg (by omega)]
 | succ d ih =>
  intro i hi
  obtain ⟨hr, h0, h1⟩ := hon (i : Int) (by omega) (by omega)
  obtain ⟨f1, fn, t1, tn⟩ := ends_range R.arcs hr
  have hul := U.len
  have hsrc := U.src
  have l3 := few_l3 (n := n) (s := s) (t := t) (by omega) hol hon hl (ih (i + 1) (by omega)) i 0 (by omega)
  refine Ev.step (f := ?g) (fun k => ?h) ?e
  case h =>
   simp only [racewaylaw7_LevelFew.l2]
   rw [if_pos (by omega), if_pos (by omega)]
  case e =>
   refine Ev.bind (ends_ev hr R.len) ?_
   simp only
   have n1 : ¬ toOf l (rd on (i : Int)) = s := fun e => by rw [e, hsrc] at h1; omega
   have n2 : ¬ fromOf l (rd on (i : Int)) = toOf l (rd on (i : Int)) := fun e => by rw [e] at h1; omega
   have n3 : decide (rd up (fromOf l (rd on (i : Int))) ≥ rd up (toOf l (rd on (i : Int)))) = false := decide_eq_false (by omega)
   refine Ev.step (f := fun k => racewaylaw7_LevelFew.l3 k up on (i : Int) 0 n s t l) (g := fun k => racewaylaw7_LevelFew.j4 k up on (i : Int) false n s t l) (fun k => by simp [racewaylaw7_LevelFew.j4]) l3 |> Ev.congr (fun k => ?_)
   rw [if_neg n1, if_neg n2, if_pos (by omega), if_pos (by omega), if_pos (by omega), if_pos (by omega), n3]
theorem few_l1 (hg : ∀ a ∈ l, GoodArc n a) (U : IsUp n s l room 1 up) {on : List Int} {met : List Bool} {most : Int} (hml : (met.length : Int) = n + 1) (hn : n ≤ 9) (hm0 : 0 ≤ most) (hmn : most ≤ n) (hmet : ∀ u, 1 ≤ u → u ≤ n → 0 ≤ rd up u → rdOf false met (rd up u) = true)
  (hmost : most = 0 ∨ ∃ u, 1 ≤ u ∧ u ≤ n ∧ rd up u = most) (hs : 1 ≤ s ∧ s ≤ n) (hnext : Ev (fun k => racewaylaw7_LevelFew.l2 k up on 0 n s t l) true) (d : Nat) : ∀ i : Nat, (i : Int) + d = most + 1 → Ev (fun k => racewaylaw7_LevelFew.l1 k up on met most (i : Int) n s t l) true := by
 induction d with
 | zero =>
  intro i hi
  refine Ev.step (fun k => ?_) hnext
  simp only [racewaylaw7_LevelFew.l1]
  rw [if_neg (by omega)]
 | succ d ih =>
  intro i hi
  have hmi : rdOf false met (i : Int) = true := by
   rcases hmost with h | ⟨u, u1, un, hu⟩
   ·have e : (i : Int) = rd up s := by rw [U.src]; omega
    rw [e]
    exact hmet s hs.1 hs.2 (by rw [U.src]; decide)
   ·obtain ⟨v, v1, vn, hv⟩ := gapless hg U (most - i).toNat u (i : Int) (by omega) un (by omega) (by rw [hu]; omega)
    have := hmet v v1 vn (by omega)
    rwa [hv] at this
  refine Ev.step (fun k => ?_) (ih (i + 1) (by omega))
  simp only [racewaylaw7_LevelFew.l1]
  rw [if_pos (by omega), if_pos (by omega), if_pos (by omega), if_pos hmi, wrap_nat (by omega)]
theorem few_l0 (R : Right n s t l) (U : IsUp n s l room 1 up) {on : List Int} (hn : n ≤ 9) (hnext : Ev (fun k => racewaylaw7_LevelFew.l2 k up on 0 n s t l) true) (d : Nat) : ∀ (v : Nat) (met : List Bool) (most : Int), 1 ≤ v → (v : Int) + d = n + 1 → (met.length : Int) = n + 1 → 0 ≤ most → most ≤ n →
  (∀ u, 1 ≤ u → u < (v : Int) → 0 ≤ rd up u → rdOf false met (rd up u) = true) → (most = 0 ∨ ∃ u, 1 ≤ u ∧ u ≤ n ∧ rd up u = most) → Ev (fun k => racewaylaw7_LevelFew.l0 k up on met most (v : Int) n s t l) true := by
 have hul := U.len
 induction d with
 | zero =>
  intro v met most v1 hv hml hm0 hmn hmet hmost
  have := few_l1 R.arcs U hml hn hm0 hmn (fun u u1 un h => hmet u u1 (by omega) h) hmost ⟨R.s1, R.sn⟩ hnext (most + 1).toNat 0 (by omega)
  refine Ev.step (fun k => ?_) this
  simp only [racewaylaw7_LevelFew.l0]
  rw [if_neg (by omega)]
  rfl
 | succ d ih =>
  intro v met most v1 hv hml hm0 hmn hmet hmost
  have hrg := U.rng (v : Int) (by omega) (by omega)
  by_cases c : 0 ≤ rd up (v : Int)
  ·have hx : mx most (rd up (v : Int)) = most ∨ mx most (rd up (v : Int)) = rd up (v : Int) := by unfold mx; split <;> simp
   refine Ev.step (fun k => ?_) (ih (v + 1) (met.set (rd up (v : Int)).toNat true) (mx most (rd up (v : Int))) (by omega) (by omega) (by rw [List.length_set]; exact hml) (by omega) (by omega) (fun u u1 hu h => ?_) ?_)
   ·simp only [racewaylaw7_LevelFew.l0]
    rw [if_pos (by omega), if_pos (by omega), if_pos (by omega), if_pos c, if_pos c, if_pos (by omega), wrap_nat (by omega)]
   ·rw [rdOf_set c (by omega) h]
    split
    ·rfl
    ·rename_i hne
     by_cases e : u = (v : Int)
     ·subst e; exact absurd rfl hne
     ·exact hmet u u1 (by omega) h
   ·rcases hx with h | h
    ·rw [h]; exact hmost
    ·rw [h]; exact .inr ⟨v, by omega, by omega, rfl⟩
  ·refine Ev.step (fun k => ?_) (ih (v + 1) met most (by omega) (by omega) hml hm0 hmn (fun u u1 hu h => ?_) hmost)
   ·simp only [racewaylaw7_LevelFew.l0]
    rw [if_pos (by omega), if_pos (by omega), if_pos (by omega), if_neg (by omega), wrap_nat (by omega)]
   ·by_cases e : u = (v : Int)
    ·subst e; exact absurd h c
    ·exact hmet u u1 (by omega) h
end
theorem LevelFew : racewaylaw7_LevelFew.Pure := by
 intro a0 a1 l2 l3 w0 w1 m2 w2 m3 y3 w3
 obtain ⟨n, s, t, l, hmade, n2, n9, R, hl, _, hcap⟩ := made_ev w0 w1 w2
 obtain ⟨f, F, _, hrout⟩ := routed_ev R (fun a ha => by have := hcap a ha; omega) w3
 obtain ⟨up, hup, U⟩ := levels_ev R F (least := 1) (by decide)
 have hlead := leads_ev R F hup U
 have hol := ld_len (l := l) (room := roomOf l f) (up := up) (least := 1) (2 * l.length)
 have hon : ∀ j : Int, 0 ≤ j → j < ((ld l (roomOf l f) 1 up (2 * l.length)).length : Int) → InR l (rd (ld l (roomOf l f) 1 up (2 * l.length)) j) ∧ 0 ≤ rd up (fromOf l (rd (ld l (roomOf l f) 1 up (2 * l.length)) j)) ∧ rd up (toOf l (rd (ld l (roomOf l f) 1 up (2 * l.length)) j)) = rd up (fromOf l (rd (ld l (roomOf l f) 1 up (2 * l.length)) j)) + 1 := fun j j0 j1 => by
  obtain ⟨q0, q1, _, q2, q3⟩ := ld_get j0 j1
  have hr : InR l (rd (ld l (roomOf l f) 1 up (2 * l.length)) j) := ⟨q0, by omega⟩
  obtain ⟨f1, fn, _, _⟩ := ends_range R.arcs hr
  have := U.rng _ (show 0 ≤ fromOf l (rd (ld l (roomOf l f) 1 up (2 * l.length)) j) by omega) fn
  exact ⟨hr, by omega, q3⟩
 have L2 := few_l2 R U (by omega) hon hl _ 0 (Nat.zero_add _)
 have L0 := few_l0 R U (on := ld l (roomOf l f) 1 up (2 * l.length)) n9 L2 n.toNat 1 (List.replicate (n + 1).toNat false) 0 (by omega) (by omega) (by rw [List.length_replicate]; omega) (by omega) (by omega) (fun u u1 hu _ => by omega) (.inl rfl)
 refine Ev.rounds ?_
 unfold racewaylaw7_LevelFew.f
 refine Ev.bind shown7_ev ?_
 simp only [if_true]
 refine Ev.bind hmade (Ev.bind hrout (Ev.bind hup (Ev.bind hlead ?_)))
 simp only [if_true]
 refine Ev.step (fun k => ?_) L0
 simp only [racewaylaw7_LevelFew.j0]
 rw [if_neg (by simp), wrap_id (x := n + 1) (by omega) (by omega), if_pos (by omega), if_pos (by omega)]
 rfl
end Go.Proofs.Ytbppeffcikphcaa.Pure
