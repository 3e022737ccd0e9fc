/- Plain lists and numbers, for the law DecompChain: no program and no memory. -/
-- slimm
import Derived.Test.YtnjdjnoncoeffaaPDecompChainx0
import Derived.Test.YtnjdjnoncoeffaaPDecompChainx9
import Derived.Test.YtnjdjnoncoeffaaPDecompChainx13
import Derived.Test.YtnjdjnoncoeffaaPDecompChainx16
import Derived.Test.YtnjdjnoncoeffaaPDecompChainx17
import Derived.Test.YtnjdjnoncoeffaaPDecompChainx18
import Derived.Test.YtnjdjnoncoeffaaPDecompChainx20
import Derived.Test.YtnjdjnoncoeffaaPDecompChainx21
import Derived.Test.YtnjdjnoncoeffaaMDecompChainAll
set_option linter.unusedVariables false
namespace Go.Proofs.Ytnjdjnoncoeffaa.Pure
open Go.RowKit Go.Proofs.Ytnjdjnoncoeffaa.PDecompChain Go.Proofs.YtnjdjnoncoeffaaW.PrintWords Go.Proofs.YtnjdjnoncoeffaaW.PrintLast
theorem wr_small {x : Int} (h0 : -1000 ≤ x) (h1 : x ≤ 1000) : wrap64 x = x := wrap_id (by omega) (by omega)
def chA : Nat → Nat → List S30
 | _, 0 => []
 | q, d + 1 => ⟨(q : Int) + 1, (q : Int) + 2, 9⟩ :: chA (q + 1) d
theorem chA_len : ∀ q d, (chA q d).length = d
 | _, 0 => rfl
 | q, d + 1 => by rw [chA, List.length_cons, chA_len (q + 1) d]
theorem chA_snoc : ∀ q d, chA q (d + 1) = chA q d ++ [⟨((q + d : Nat) : Int) + 1, ((q + d : Nat) : Int) + 2, 9⟩]
 | q, 0 => rfl
 | q, d + 1 => by
  have h := chA_snoc (q + 1) d
  rw [show q + 1 + d = q + (d + 1) by omega] at h
  show _ :: chA (q + 1) (d + 1) = (_ :: chA (q + 1) d) ++ _
  rw [h]
  rfl
theorem chA_get : ∀ (d q j : Nat), j < d → (chA q d)[j]? = some ⟨((q + j : Nat) : Int) + 1, ((q + j : Nat) : Int) + 2, 9⟩
 | 0, _, _, h => by omega
 | d + 1, q, 0, _ => rfl
 | d + 1, q, j + 1, h => by
  have h_ := chA_get d (q + 1) j (by omega)
  rw [show q + 1 + j = q + (j + 1) by omega] at h_
  exact h_
theorem chA_good : ∀ (d q : Nat) (n : Int), ((q + d : Nat) : Int) + 1 ≤ n → ∀ a ∈ chA q d, GoodArc n a
 | 0, _, _, _, _, h => by cases h
 | d + 1, q, n, hn, a, h => by
  rw [chA] at h
  rcases List.mem_cons.1 h with rfl | h
  ·exact ⟨by show (1 : Int) ≤ (q : Int) + 1; omega, by show (q : Int) + 1 ≤ n; omega, by show (1 : Int) ≤ (q : Int) + 2; omega, by show (q : Int) + 2 ≤ n; omega, by show (0 : Int) ≤ 9; decide⟩
  ·exact chA_good d (q + 1) n (by omega) a h
theorem chA_sum : ∀ d q, sumCap (chA q d) = 9 * (d : Int)
 | 0, _ => rfl
 | d + 1, q => by
  rw [chA, sumCap, chA_sum d (q + 1)]
  show (9 : Int) + 9 * (d : Int) = 9 * ((d + 1 : Nat) : Int)
  omega
theorem ch_within {x : Int} (h0 : 0 ≤ x) (h1 : x ≤ 9) : ∀ (d q : Nat), Within (chA q d) (List.replicate d x)
 | 0, _ => trivial
 | d + 1, q => ⟨h0, h1, ch_within h0 h1 d (q + 1)⟩
theorem ch_exc (x : Int) : ∀ (d q : Nat) (v : Int), exc (chA q d) (List.replicate d x) v = (if ((q + d : Nat) : Int) + 1 = v then x else 0) - (if (q : Int) + 1 = v then x else 0)
 | 0, q, v => by
  show 0 = (if (q : Int) + 1 = v then x else 0) - (if (q : Int) + 1 = v then x else 0)
  omega
 | d + 1, q, v => by
  have h := ch_exc x d (q + 1) v
  rw [show q + 1 + d = q + (d + 1) by omega, show ((q + 1 : Nat) : Int) + 1 = (q : Int) + 2 by omega] at h
  show (if (q : Int) + 2 = v then x else 0) - (if (q : Int) + 1 = v then x else 0) + exc (chA (q + 1) d) (List.replicate d x) v = _
  rw [h]
  generalize (if (q : Int) + 2 = v then x else 0) = a
  omega
theorem set_same {α : Type} {xs : List α} {i : Nat} {x : α} (h : xs[i]? = some x) : xs.set i x = xs := by
 obtain ⟨hi, rfl⟩ := List.getElem?_eq_some_iff.1 h
 exact List.set_getElem_self hi
theorem rd_at {xs : List Int} {i : Nat} {x : Int} (h : xs[i]? = some x) : rd xs (i : Int) = x := by
 unfold rd
 rw [List.getD_eq_getElem?_getD, Int.toNat_natCast, h]
 rfl
theorem chA_rd {m q : Nat} (h : q < m) : rd_T30 (chA 0 m) (q : Int) = ⟨(q : Int) + 1, (q : Int) + 2, 9⟩ := by
 unfold rd_T30
 rw [List.getD_eq_getElem?_getD, Int.toNat_natCast, chA_get m 0 q h, Nat.zero_add]
 rfl
theorem ch_row {m j : Nat} (h : j < m) : ∃ rest, (dcRows (chA 0 m) (m + 2) m)[j + 1]? = some ((j : Int) :: rest) := by
 have hf : ∀ r : Nat, r < m → (rd_T30 (chA 0 m) (r : Int)).f0 = (r : Int) + 1 := fun r hr => by rw [chA_rd hr]
 obtain ⟨x, hx, hm⟩ := tracks_at2 (fr := fun j => (rd_T30 (chA 0 m) j).f0) (m := m + 2) m (j + 1) (by omega)
 have hin : (j : Int) ∈ x := (hm (j : Int)).1 ⟨by omega, by omega, by show ((rd_T30 (chA 0 m) (j : Int)).f0).toNat = j + 1; rw [hf j h]; omega⟩
 cases x with
 | nil => cases hin
 | cons a rest =>
  have ha := (hm a).2 List.mem_cons_self
  obtain ⟨b, rfl⟩ : ∃ b : Nat, a = (b : Int) := ⟨a.toNat, by omega⟩
  have hb : ((rd_T30 (chA 0 m) (b : Int)).f0).toNat = j + 1 := ha.2.2
  rw [hf b (by omega)] at hb
  have e : b = j := by omega
  subst e
  exact ⟨rest, hx⟩
def chR : Nat → Nat → List Int
 | _, 0 => []
 | q, d + 1 => (q : Int) :: chR (q + 1) d
theorem chR_len : ∀ q d, (chR q d).length = d
 | _, 0 => rfl
 | q, d + 1 => by rw [chR, List.length_cons, chR_len (q + 1) d]
theorem chR_mem : ∀ (d q : Nat), ∀ r ∈ chR q d, (q : Int) ≤ r ∧ r < ((q + d : Nat) : Int)
 | 0, _, _, h => by cases h
 | d + 1, q, r, h => by
  rw [chR] at h
  rcases List.mem_cons.1 h with rfl | h
  ·omega
  ·have := chR_mem d (q + 1) r h
   omega
theorem ch_out : ∀ (met : List Int) (v : Int), (∀ u ∈ met, u < v) → met.findIdx (fun u => decide (u = v)) = met.length
 | [], _, _ => rfl
 | a :: met, v, h => by
  have h1 := h a List.mem_cons_self
  rw [List.findIdx_cons, decide_eq_false (by omega), ch_out met v (fun u hu => h u (List.mem_cons_of_mem _ hu))]
  rfl
theorem ch_rep {m q : Nat} {x : Int} (h : q < m) : rd (List.replicate m x) (q : Int) = x := rd_at (by rw [List.getElem?_replicate, if_pos h])
theorem ch_walk {m : Nat} {x kind : Int} (hx : 0 < x) (hm : m ≤ 60) (K : Nat) : ∀ (d q : Nat) (xs met : List Int), q + (d + 1) = m → xs.length ≤ q → (∀ u ∈ met, u < (q : Int) + 2) →
  dcWalk (chA 0 m) (List.replicate m x) ((m : Int) + 1) kind (K + (d + 1)) (dcRows (chA 0 m) (m + 2) m) ((q : Int) + 1) xs met = some (kind, xs ++ chR q (d + 1), dcRows (chA 0 m) (m + 2) m) := by
 intro d
 induction d with
 | zero =>
  intro q xs met hq hl hmet
  obtain ⟨r0, e0⟩ := ch_row (m := m) (j := q) (by omega)
  have k0 : dcHas (List.replicate m x) (q : Int) = true := by unfold dcHas; rw [ch_rep (by omega)]; exact decide_eq_true hx
  have c0 : ((q : Int) + 1).toNat = q + 1 := by omega
  rw [dcWalk, c0, List.getD_eq_getElem?_getD, e0, Option.getD_some, List.findIdx_cons, k0]
  simp only [cond_true, List.drop_zero]
  rw [if_pos (by omega), chA_rd (by omega)]
  simp only
  rw [if_pos (by omega), set_same e0]
  rfl
 | succ d ih =>
  intro q xs met hq hl hmet
  obtain ⟨r0, e0⟩ := ch_row (m := m) (j := q) (by omega)
  have k0 : dcHas (List.replicate m x) (q : Int) = true := by unfold dcHas; rw [ch_rep (by omega)]; exact decide_eq_true hx
  have c0 : ((q : Int) + 1).toNat = q + 1 := by omega
  have hnext := ih (q + 1) (xs ++ [(q : Int)]) (met ++ [(q : Int) + 2]) (by omega) (by rw [List.length_append, List.length_singleton]; omega) (fun u hu => by
   rcases List.mem_append.1 hu with hu | hu
   ·have := hmet u hu
    omega
   ·have := List.mem_singleton.1 hu
    omega)
  rw [show ((q + 1 : Nat) : Int) + 1 = (q : Int) + 2 by omega, List.append_assoc] at hnext
  rw [show K + (d + 1 + 1) = K + (d + 1) + 1 by omega, dcWalk, c0, List.getD_eq_getElem?_getD, e0, Option.getD_some, List.findIdx_cons, k0]
  simp only [cond_true, List.drop_zero]
  rw [if_pos (by omega), chA_rd (by omega)]
  simp only
  rw [if_neg (by omega), ch_out met _ hmet, if_neg (by omega), set_same e0, hnext]
  rfl
theorem ch_most {m : Nat} {x : Int} : ∀ (d q : Nat), q + d ≤ m → dcMost (List.replicate m x) (chR q d) x = x
 | 0, _, _ => rfl
 | d + 1, q, h => by
  rw [chR, dcMost, ch_rep (by omega), if_neg (by omega)]
  exact ch_most d (q + 1) (by omega)
theorem ch_pour {x : Int} : ∀ (d q : Nat), dcPour x (chR q d) (List.replicate q 0 ++ List.replicate d x) = List.replicate (q + d) 0
 | 0, q => by rw [chR, dcPour]; simp
 | d + 1, q => by
  have e : (List.replicate q (0 : Int) ++ List.replicate (d + 1) x)[q]? = some x := by
   rw [List.getElem?_append_right (by rw [List.length_replicate]; exact Nat.le_refl _), List.length_replicate, Nat.sub_self]; rfl
  have hz : wrap64 (x - x) = 0 := by rw [Int.sub_self]; exact wrap_id (by decide) (by decide)
  have s1 : (List.replicate q (0 : Int) ++ List.replicate (d + 1) x).set q 0 = List.replicate (q + 1) 0 ++ List.replicate d x := by
   rw [List.set_append_right _ _ (by rw [List.length_replicate]; exact Nat.le_refl _), List.length_replicate, Nat.sub_self, show List.replicate (q + 1) (0 : Int) = List.replicate q 0 ++ [0] from List.replicate_succ', List.append_assoc]
   rfl
  rw [chR, dcPour, rd_at e, hz, Int.toNat_natCast, s1, ch_pour d (q + 1)]
  rw [show q + 1 + d = q + (d + 1) by omega]
theorem ch_none (m : Nat) : dcIxP (List.replicate m (0 : Int)) = m := by
 induction m with
 | zero => rfl
 | succ c ih =>
  unfold dcIxP at ih ⊢
  rw [List.replicate_succ, List.findIdx_cons, ih]
  rfl
theorem ch_take {m K : Nat} {x v kind s t : Int} (hx : 0 < x) (hx9 : x ≤ 9) (hm0 : 1 ≤ m) (hm : m ≤ 60) (hv : (v = x ∧ kind = 112 ∧ s = 1 ∧ t = (m : Int) + 1) ∨ (v = -x ∧ kind = 98 ∧ t = 1 ∧ s = (m : Int) + 1)) :
  dcTake (chA 0 m) (List.replicate m x) s t v ((0 : Nat) : Int) (K + m) (dcRows (chA 0 m) (m + 2) m) = some (⟨kind, chR 0 m, x⟩, List.replicate m 0, 0, dcRows (chA 0 m) (m + 2) m) := by
 have hwk := ch_walk (kind := kind) hx hm K (m - 1) 0 [] [1] (by omega) (by simp) (fun u hu => by have := List.mem_singleton.1 hu; omega)
 rw [show m - 1 + 1 = m by omega, show ((0 : Nat) : Int) + 1 = 1 by omega, List.nil_append] at hwk
 have hit : dcItem (chA 0 m) (List.replicate m x) s t v ((0 : Nat) : Int) (K + m) (dcRows (chA 0 m) (m + 2) m) = some (kind, chR 0 m, dcRows (chA 0 m) (m + 2) m) := by
  unfold dcItem
  rcases hv with ⟨rfl, rfl, rfl, rfl⟩ | ⟨rfl, rfl, rfl, rfl⟩
  ·rw [if_pos hx]; exact hwk
  ·rw [if_neg (by omega), if_pos (by omega)]; exact hwk
 have ham : dcAm (List.replicate m x) v kind (chR 0 m) = x := by
  unfold dcAm
  rcases hv with ⟨rfl, rfl, rfl, rfl⟩ | ⟨rfl, rfl, rfl, rfl⟩
  ·rw [if_neg (by decide), wr_small (by omega) (by omega), if_neg (by omega), ch_most m 0 (by omega)]
  ·rw [if_neg (by decide), wr_small (by omega) (by omega), if_pos (by omega), Int.neg_neg, ch_most m 0 (by omega)]
 have hval : dcVal v kind x = 0 := by
  unfold dcVal
  rcases hv with ⟨rfl, rfl, rfl, rfl⟩ | ⟨rfl, rfl, rfl, rfl⟩
  ·rw [if_pos rfl, wr_small (by omega) (by omega)]; omega
  ·rw [if_neg (by decide), if_pos rfl, wr_small (by omega) (by omega)]; omega
 have hp := ch_pour (x := x) m 0
 rw [List.replicate_zero, List.nil_append, Nat.zero_add] at hp
 have hall : ((chR 0 m).all (fun r => decide (0 ≤ r ∧ r < (((List.replicate m x).length : Nat) : Int)))) = true := by
  rw [List.length_replicate]
  refine List.all_eq_true.2 (fun r hr => decide_eq_true ?_)
  have := chR_mem m 0 r hr
  omega
 unfold dcTake
 rw [hit]
 simp only [Option.bind_some]
 rw [if_neg (by rw [chR_len]; omega), if_pos ⟨hall, by rw [chR_len]; omega⟩, ham, hp, hval]
theorem ch_run {m K : Nat} {x v kind s t : Int} (hx : 0 < x) (hx9 : x ≤ 9) (hm0 : 1 ≤ m) (hm : m ≤ 60) (hv : (v = x ∧ kind = 112 ∧ s = 1 ∧ t = (m : Int) + 1) ∨ (v = -x ∧ kind = 98 ∧ t = 1 ∧ s = (m : Int) + 1)) (fuel : Nat) :
  dcRun (chA 0 m) s t (K + m) (fuel + 2) (List.replicate m x) v 0 (dcRows (chA 0 m) (m + 2) m) [] = some [⟨kind, chR 0 m, x⟩] := by
 have h0 : 0 + dcIxP ((List.replicate m x).drop 0) = 0 := by
  obtain ⟨j, rfl⟩ : ∃ j, m = j + 1 := ⟨m - 1, by omega⟩
  unfold dcIxP
  rw [List.drop_zero, List.replicate_succ, List.findIdx_cons, decide_eq_true hx]
  rfl
 rw [dcRun, h0, if_pos (by rw [List.length_replicate]; omega), if_pos (by simp), ch_take hx hx9 hm0 hm hv]
 simp only [Option.bind_some]
 rw [dcRun, List.drop_zero, ch_none, if_neg (by rw [List.length_replicate]; omega)]
 rfl
theorem ch_split {m : Nat} {x kind s t : Int} (hx : 0 ≤ x) (hx9 : x ≤ 9) (hm0 : 1 ≤ m) (hm : m ≤ 60) (hv : (kind = 112 ∧ s = 1 ∧ t = (m : Int) + 1) ∨ (kind = 98 ∧ t = 1 ∧ s = (m : Int) + 1)) :
  Ev (fun k => decomp_Split.f k ((m : Int) + 1) s t (chA 0 m) (List.replicate m x)) (if x = 0 then [] else [⟨kind, chR 0 m, x⟩], 0) := by
 have hal := chA_len 0 m
 have hg := chA_good m 0 ((m : Int) + 1) (by omega)
 have hr : Right ((m : Int) + 1) s t (chA 0 m) := ⟨by omega, by omega, by omega, by omega, by omega, by omega, by omega, by rw [hal]; omega, hg, by rw [chA_sum]; omega⟩
 have hF : IsFlow ((m : Int) + 1) s t (chA 0 m) (List.replicate m x) := ⟨ch_within hx hx9 m 0, fun v _ _ hs ht => by
  rw [ch_exc, if_neg (by omega), if_neg (by omega)]
  rfl⟩
 have hv_ := value_flow hr hF
 unfold decomp_Split.f
 refine Ev.bind hv_ ?_
 have hfit : dcFit ((m : Int) + 1) s t (chA 0 m) (List.replicate m x) = true := by
  unfold dcFit
  rw [Bool.and_eq_true]
  refine ⟨decide_eq_true ⟨by omega, by omega, by omega, by omega, by omega, by omega, by rw [hal]; omega, by rw [hal, List.length_replicate]⟩, List.all_eq_true.2 (fun a ha => decide_eq_true ?_)⟩
  have g := hg a ha
  exact ⟨by have := g.1; omega, g.2.1, by have := g.2.2.1; omega, g.2.2.2.1⟩
 simp only [if_true, hfit]
 have e : ((m : Int) + 1 + 1).toNat = m + 2 := by omega
 rw [e, hal]
 have hrun : Ev (fun k => dcRun (chA 0 m) s t k k (List.replicate m x) (exc (chA 0 m) (List.replicate m x) t) 0 (dcRows (chA 0 m) (m + 2) m) []) (if x = 0 then [] else [⟨kind, chR 0 m, x⟩]) := by
  refine ⟨m + 2, fun k hk => ?_⟩
  by_cases c : x = 0
  ·subst c
   obtain ⟨f, rfl⟩ : ∃ f, k = f + 1 := ⟨k - 1, by omega⟩
   show dcRun (chA 0 m) s t (f + 1) (f + 1) (List.replicate m 0) _ 0 (dcRows (chA 0 m) (m + 2) m) [] = _
   rw [if_pos rfl, dcRun, List.drop_zero, ch_none, if_neg (by rw [List.length_replicate]; omega)]
  ·rw [if_neg c]
   have hxp : 0 < x := by omega
   have hex : (exc (chA 0 m) (List.replicate m x) t = x ∧ kind = 112 ∧ s = 1 ∧ t = (m : Int) + 1) ∨ (exc (chA 0 m) (List.replicate m x) t = -x ∧ kind = 98 ∧ t = 1 ∧ s = (m : Int) + 1) := by
    rcases hv with ⟨h1, h2, h3⟩ | ⟨h1, h2, h3⟩
    ·refine Or.inl ⟨?_, h1, h2, h3⟩
     rw [ch_exc, h3, if_pos (by omega), if_neg (by omega)]
     omega
    ·refine Or.inr ⟨?_, h1, h2, h3⟩
     rw [ch_exc, h2, if_neg (by omega), if_pos (by omega)]
     omega
   obtain ⟨K, rfl⟩ : ∃ K, k = K + m := ⟨k - m, by omega⟩
   obtain ⟨f, hf⟩ : ∃ f, K + m = f + 2 := ⟨K + m - 2, by omega⟩
   have h_ := ch_run (K := K) hxp hx9 hm0 hm hex f
   rw [← hf] at h_
   exact h_
 refine Ev.bind hrun ?_
 exact Ev.now _
theorem ch_l0 {m : Nat} {x : Int} (hx : 0 ≤ x) (hx9 : x ≤ 9) (hm0 : 1 ≤ m) (hm : m ≤ 60) (d : Nat) : ∀ i : Nat, i + d = m →
  Ev (fun k => racewaylaw15_DecompChain.l0 k (m : Int) x (List.replicate i x) (i : Int) ((m : Int) + 1) 1 ((m : Int) + 1) (chA 0 i)) true := by
 induction d with
 | zero =>
  intro i hi
  have e : i = m := by omega
  subst e
  have h1 := ch_split (kind := 112) (s := 1) (t := (i : Int) + 1) hx hx9 hm0 hm (Or.inl ⟨rfl, rfl, rfl⟩)
  have h2 := ch_split (kind := 98) (s := (i : Int) + 1) (t := 1) hx hx9 hm0 hm (Or.inr ⟨rfl, rfl, rfl⟩)
  obtain ⟨j, rfl⟩ : ∃ j, i = j + 1 := ⟨i - 1, by omega⟩
  refine Ev.step (f := ?g) (fun k => ?h) ?e
  case h =>
   simp only [racewaylaw15_DecompChain.l0]
   rw [if_neg (by omega)]
  case e =>
   refine Ev.bind h1 ?_
   refine Ev.bind h2 ?_
   by_cases c : x = 0
   ·subst c
    simp
    exact Ev.now _
   ·have hl := chR_len 0 (j + 1)
    have r1 : rd_T36 [(⟨112, chR 0 (j + 1), x⟩ : S36)] 0 = ⟨112, chR 0 (j + 1), x⟩ := rfl
    have r2 : rd_T36 [(⟨98, chR 0 (j + 1), x⟩ : S36)] 0 = ⟨98, chR 0 (j + 1), x⟩ := rfl
    have r3 : rd (chR 0 (j + 1)) 0 = 0 := rfl
    simp only [if_neg c, r1, r2, r3, hl, List.length_cons, List.length_nil]
    simp
    exact Ev.now _
 | succ d ih =>
  intro i hi
  have hal := chA_len 0 i
  have hA := chA_snoc 0 i
  rw [Nat.zero_add] at hA
  have hR : List.replicate (i + 1) x = List.replicate i x ++ [x] := List.replicate_succ'
  have hnext := ih (i + 1) (by omega)
  have w1 : wrap64 ((i : Int) + 1) = ((i + 1 : Nat) : Int) := by rw [wr_small (by omega) (by omega)]; rfl
  have w2 : wrap64 ((i : Int) + 2) = (i : Int) + 2 := wr_small (by omega) (by omega)
  rw [hA, hR] at hnext
  refine Ev.step (fun k => ?_) hnext
  simp only [racewaylaw15_DecompChain.l0]
  rw [if_pos (by omega), if_pos (by rw [hal]; omega), if_pos (by rw [List.length_replicate]; omega), w1, w2]
  rfl
theorem DecompChain : racewaylaw15_DecompChain.Pure := by
 intro a b ha hb
 have wa := wf_bounds ha
 have wb := wf_bounds hb
 have ea : racewaylaw15_pick.f a 60 = some (pk a 60) := pick_eq wa.1 wa.2 (by decide)
 have eb : racewaylaw15_pick.f b 9 = some (pk b 9) := pick_eq wb.1 wb.2 (by decide)
 have pa := pk_range (c := a) (n := 60) (by decide)
 have pb := pk_range (c := b) (n := 9) (by decide)
 clear wa wb ha hb
 obtain ⟨p, hp⟩ : ∃ p : Nat, pk a 60 = (p : Int) := ⟨(pk a 60).toNat, by omega⟩
 rw [hp] at pa ea
 have w1 : wrap64 (1 + (p : Int)) = ((p + 1 : Nat) : Int) := by rw [wr_small (by omega) (by omega)]; omega
 have w2 : wrap64 (((p + 1 : Nat) : Int) + 1) = ((p + 1 : Nat) : Int) + 1 := wr_small (by omega) (by omega)
 have hl := ch_l0 (m := p + 1) (x := pk b 9) pb.1 (by omega) (by omega) (by omega) (p + 1) 0 (by omega)
 have h : Ev (fun k => racewaylaw15_DecompChain.f k a b) true := by
  unfold racewaylaw15_DecompChain.f
  refine Ev.bind shown15_ev ?_
  simp only [if_true]
  rw [ea, eb]
  simp only [Option.bind_some]
  rw [w1, w2]
  exact hl
 exact Ev.rounds h
end Go.Proofs.Ytnjdjnoncoeffaa.Pure
