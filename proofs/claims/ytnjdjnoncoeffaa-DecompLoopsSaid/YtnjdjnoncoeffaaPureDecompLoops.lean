/- Plain lists and numbers, for the law DecompLoops: no program and no memory. -/
-- slimm
import Derived.Test.YtnjdjnoncoeffaaPDecompLoopsx0
import Derived.Test.YtnjdjnoncoeffaaPDecompLoopsx9
import Derived.Test.YtnjdjnoncoeffaaPDecompLoopsx13
import Derived.Test.YtnjdjnoncoeffaaPDecompLoopsx16
import Derived.Test.YtnjdjnoncoeffaaPDecompLoopsx17
import Derived.Test.YtnjdjnoncoeffaaPDecompLoopsx18
import Derived.Test.YtnjdjnoncoeffaaPDecompLoopsx20
import Derived.Test.YtnjdjnoncoeffaaPDecompLoopsx21
import Derived.Test.YtnjdjnoncoeffaaMDecompLoopsAll
set_option linter.unusedVariables false
namespace Go.Proofs.Ytnjdjnoncoeffaa.Pure
open Go.RowKit Go.Proofs.Ytnjdjnoncoeffaa.PDecompLoops Go.Proofs.YtnjdjnoncoeffaaW.PrintWords Go.Proofs.YtnjdjnoncoeffaaW.PrintLast
theorem wr_small {x : Int} (h0 : 0 ≤ x) (h1 : x ≤ 1000) : wrap64 x = x := wrap_id (by omega) (by omega)
theorem lp_up {i : Nat} (h : i ≤ 60) : wrap64 ((i : Int) + 1) = ((i + 1 : Nat) : Int) := by rw [wr_small (by omega) (by omega)]; rfl
theorem lp_odd {i : Nat} (h : i ≤ 60) : wrap64 (2 * (i : Int) + 1) = 2 * (i : Int) + 1 := wr_small (by omega) (by omega)
theorem lp_arc {i : Nat} (h : i ≤ 60) : wrap64 (2 * (i : Int)) = 2 * (i : Int) ∧ wrap64 (3 + 2 * (i : Int)) = 3 + 2 * (i : Int) ∧ wrap64 (4 + 2 * (i : Int)) = 4 + 2 * (i : Int) := ⟨wr_small (by omega) (by omega), wr_small (by omega) (by omega), wr_small (by omega) (by omega)⟩
def lpA : Nat → Nat → List S30
 | _, 0 => []
 | q, d + 1 => ⟨3 + 2 * (q : Int), 4 + 2 * (q : Int), 5⟩ :: ⟨4 + 2 * (q : Int), 3 + 2 * (q : Int), 5⟩ :: lpA (q + 1) d
theorem lpA_len : ∀ q d, (lpA q d).length = 2 * d
 | _, 0 => rfl
 | q, d + 1 => by rw [lpA, List.length_cons, List.length_cons, lpA_len (q + 1) d]; omega
theorem lpA_snoc : ∀ q d, lpA q (d + 1) = lpA q d ++ [⟨3 + 2 * ((q + d : Nat) : Int), 4 + 2 * ((q + d : Nat) : Int), 5⟩] ++ [⟨4 + 2 * ((q + d : Nat) : Int), 3 + 2 * ((q + d : Nat) : Int), 5⟩]
 | q, 0 => rfl
 | q, d + 1 => by
  have h := lpA_snoc (q + 1) d
  rw [show q + 1 + d = q + (d + 1) by omega] at h
  show _ :: _ :: lpA (q + 1) (d + 1) = (_ :: _ :: lpA (q + 1) d) ++ _ ++ _
  rw [h]
  rfl
theorem lpA_get : ∀ (d q j : Nat), j < d → (lpA q d)[2 * j]? = some ⟨3 + 2 * ((q + j : Nat) : Int), 4 + 2 * ((q + j : Nat) : Int), 5⟩ ∧ (lpA q d)[2 * j + 1]? = some ⟨4 + 2 * ((q + j : Nat) : Int), 3 + 2 * ((q + j : Nat) : Int), 5⟩
 | 0, _, _, h => by omega
 | d + 1, q, 0, _ => ⟨rfl, rfl⟩
 | d + 1, q, j + 1, h => by
  have h_ := lpA_get d (q + 1) j (by omega)
  rw [show q + 1 + j = q + (j + 1) by omega] at h_
  exact h_
theorem lpA_good : ∀ (d q : Nat) (n : Int), 2 + 2 * ((q + d : Nat) : Int) ≤ n → ∀ a ∈ lpA q d, GoodArc n a
 | 0, _, _, _, _, h => by cases h
 | d + 1, q, n, hn, a, h => by
  rw [lpA] at h
  rcases List.mem_cons.1 h with rfl | h
  ·exact ⟨by show (1 : Int) ≤ 3 + 2 * (q : Int); omega, by show 3 + 2 * (q : Int) ≤ n; omega, by show (1 : Int) ≤ 4 + 2 * (q : Int); omega, by show 4 + 2 * (q : Int) ≤ n; omega, by show (0 : Int) ≤ 5; decide⟩
  ·rcases List.mem_cons.1 h with rfl | h
   ·exact ⟨by show (1 : Int) ≤ 4 + 2 * (q : Int); omega, by show 4 + 2 * (q : Int) ≤ n; omega, by show (1 : Int) ≤ 3 + 2 * (q : Int); omega, by show 3 + 2 * (q : Int) ≤ n; omega, by show (0 : Int) ≤ 5; decide⟩
   ·exact lpA_good d (q + 1) n (by omega) a h
theorem lpA_sum : ∀ d q, sumCap (lpA q d) = 10 * (d : Int)
 | 0, _ => rfl
 | d + 1, q => by
  rw [lpA, sumCap, sumCap, lpA_sum d (q + 1)]
  show (5 : Int) + (5 + 10 * (d : Int)) = 10 * ((d + 1 : Nat) : Int)
  omega
def dbl : List Int → List Int
 | [] => []
 | x :: xs => x :: x :: dbl xs
theorem dbl_len : ∀ xs, (dbl xs).length = 2 * xs.length
 | [] => rfl
 | x :: xs => by rw [dbl, List.length_cons, List.length_cons, dbl_len xs, List.length_cons]; omega
theorem dbl_app : ∀ xs ys, dbl (xs ++ ys) = dbl xs ++ dbl ys
 | [], _ => rfl
 | x :: xs, ys => by show x :: x :: dbl (xs ++ ys) = _; rw [dbl_app xs ys]; rfl
theorem lp_within : ∀ (ys : List Int) (q : Nat), (∀ y ∈ ys, 0 ≤ y ∧ y ≤ 4) → Within (lpA q ys.length) (dbl ys)
 | [], _, _ => trivial
 | y :: ys, q, h => by
  have h1 := h y List.mem_cons_self
  exact ⟨h1.1, by show y ≤ 5; omega, h1.1, by show y ≤ 5; omega, lp_within ys (q + 1) (fun z hz => h z (List.mem_cons_of_mem _ hz))⟩
theorem lp_exc : ∀ (ys : List Int) (q : Nat) (v : Int), exc (lpA q ys.length) (dbl ys) v = 0
 | [], _, _ => rfl
 | y :: ys, q, v => by
  have h := lp_exc ys (q + 1) v
  show (if 4 + 2 * (q : Int) = v then y else 0) - (if 3 + 2 * (q : Int) = v then y else 0) + ((if 3 + 2 * (q : Int) = v then y else 0) - (if 4 + 2 * (q : Int) = v then y else 0) + exc (lpA (q + 1) ys.length) (dbl ys) v) = 0
  rw [h]
  generalize (if 4 + 2 * (q : Int) = v then y else 0) = a
  generalize (if 3 + 2 * (q : Int) = v then y else 0) = b
  omega
def lpI : Nat → List Int → List S36
 | _, [] => []
 | q, x :: xs => if 0 < x then ⟨99, [2 * (q : Int), 2 * (q : Int) + 1], x⟩ :: lpI (q + 1) xs else lpI (q + 1) xs
theorem lp_row {m j : Nat} (h : j < 2 * m) : ∃ rest, (dcRows (lpA 0 m) (2 * m + 3) (2 * m))[3 + j]? = some ((j : Int) :: rest) := by
 have hf : ∀ r : Nat, r < 2 * m → (rd_T30 (lpA 0 m) (r : Int)).f0 = 3 + (r : Int) := fun r hr => by
  have g := lpA_get m 0 (r / 2) (by omega)
  unfold rd_T30
  rw [List.getD_eq_getElem?_getD, Int.toNat_natCast]
  by_cases c : r % 2 = 0
  ·rw [show r = 2 * (r / 2) by omega, g.1]
   show 3 + 2 * ((0 + r / 2 : Nat) : Int) = _
   omega
  ·rw [show r = 2 * (r / 2) + 1 by omega, g.2]
   show 4 + 2 * ((0 + r / 2 : Nat) : Int) = _
   omega
 obtain ⟨x, hx, hm⟩ := tracks_at2 (fr := fun j => (rd_T30 (lpA 0 m) j).f0) (m := 2 * m + 3) (2 * m) (3 + j) (by omega)
 have hin : (j : Int) ∈ x := (hm (j : Int)).1 ⟨by omega, by omega, by show ((rd_T30 (lpA 0 m) (j : Int)).f0).toNat = 3 + j; rw [hf j h]; omega⟩
 cases x with
 | nil => cases hin
 | cons a rest =>
  have ha := (hm a).2 List.mem_cons_self
  obtain ⟨b, rfl⟩ : ∃ b : Nat, a = (b : Int) := ⟨a.toNat, by omega⟩
  have hb : ((rd_T30 (lpA 0 m) (b : Int)).f0).toNat = 3 + j := ha.2.2
  rw [hf b (by omega)] at hb
  have e : b = j := by omega
  subst e
  exact ⟨rest, hx⟩
theorem set_same {α : Type} {xs : List α} {i : Nat} {x : α} (h : xs[i]? = some x) : xs.set i x = xs := by
 obtain ⟨hi, rfl⟩ := List.getElem?_eq_some_iff.1 h
 exact List.set_getElem_self hi
theorem rd_at {xs : List Int} {i : Nat} {x : Int} (h : xs[i]? = some x) : rd xs (i : Int) = x := by
 unfold rd
 rw [List.getD_eq_getElem?_getD, Int.toNat_natCast, h]
 rfl
theorem lp_left (q : Nat) (y : Int) (ys : List Int) : (List.replicate (2 * q) 0 ++ dbl (y :: ys))[2 * q]? = some y ∧ (List.replicate (2 * q) 0 ++ dbl (y :: ys))[2 * q + 1]? = some y := by
 constructor
 ·rw [List.getElem?_append_right (by rw [List.length_replicate]; exact Nat.le_refl _), List.length_replicate, Nat.sub_self]; rfl
 ·rw [List.getElem?_append_right (by rw [List.length_replicate]; omega), List.length_replicate, show 2 * q + 1 - 2 * q = 1 by omega]; rfl
theorem lp_zeros (q : Nat) (ys : List Int) : List.replicate (2 * q) (0 : Int) ++ dbl (0 :: ys) = List.replicate (2 * (q + 1)) 0 ++ dbl ys := by
 rw [show 2 * (q + 1) = 2 * q + 2 by omega, ← List.replicate_append_replicate, List.append_assoc]
 rfl
theorem lp_walk {m q K : Nat} {left : List Int} {y : Int} (h : q < m) (hy : 0 < y) (h0 : left[2 * q]? = some y) (h1 : left[2 * q + 1]? = some y) :
  dcWalk (lpA 0 m) left 0 99 (K + 2) (dcRows (lpA 0 m) (2 * m + 3) (2 * m)) (3 + 2 * (q : Int)) [] [3 + 2 * (q : Int)] = some (99, [2 * (q : Int), 2 * (q : Int) + 1], dcRows (lpA 0 m) (2 * m + 3) (2 * m)) := by
 obtain ⟨r0, e0⟩ := lp_row (m := m) (j := 2 * q) (by omega)
 obtain ⟨r1, e1⟩ := lp_row (m := m) (j := 2 * q + 1) (by omega)
 have g := lpA_get m 0 q h
 have c0 : (3 + 2 * (q : Int)).toNat = 3 + 2 * q := by omega
 have c1 : (4 + 2 * (q : Int)).toNat = 3 + (2 * q + 1) := by omega
 have d0 : ((2 * q : Nat) : Int) = 2 * (q : Int) := by omega
 have d1 : ((2 * q + 1 : Nat) : Int) = 2 * (q : Int) + 1 := by omega
 have a0 : rd left (2 * (q : Int)) = y := by rw [← d0]; exact rd_at h0
 have a1 : rd left (2 * (q : Int) + 1) = y := by rw [← d1]; exact rd_at h1
 have f0 : (rd_T30 (lpA 0 m) (2 * (q : Int))).f1 = 4 + 2 * (q : Int) := by
  unfold rd_T30
  rw [List.getD_eq_getElem?_getD, ← d0, Int.toNat_natCast, g.1]
  show 4 + 2 * ((0 + q : Nat) : Int) = _
  omega
 have f1 : (rd_T30 (lpA 0 m) (2 * (q : Int) + 1)).f1 = 3 + 2 * (q : Int) := by
  unfold rd_T30
  rw [List.getD_eq_getElem?_getD, ← d1, Int.toNat_natCast, g.2]
  show 3 + 2 * ((0 + q : Nat) : Int) = _
  omega
 have k0 : dcHas left (2 * (q : Int)) = true := by unfold dcHas; rw [a0]; exact decide_eq_true hy
 have k1 : dcHas left (2 * (q : Int) + 1) = true := by unfold dcHas; rw [a1]; exact decide_eq_true hy
 rw [d0] at e0
 rw [d1] at e1
 rw [dcWalk, c0, List.getD_eq_getElem?_getD, e0, Option.getD_some, List.findIdx_cons, k0]
 simp only [cond_true, List.drop_zero]
 rw [if_pos (by decide), f0, if_neg (by omega), set_same e0]
 have w0 : List.findIdx (fun v => decide (v = 4 + 2 * (q : Int))) [3 + 2 * (q : Int)] = 1 := by
  rw [List.findIdx_cons, decide_eq_false (by omega)]
  rfl
 rw [w0, if_neg (by simp), dcWalk, c1, List.getD_eq_getElem?_getD, e1, Option.getD_some, List.findIdx_cons, k1]
 simp only [cond_true, List.drop_zero]
 rw [if_pos (by simp), f1, if_neg (by omega), set_same e1]
 have w1 : List.findIdx (fun v => decide (v = 3 + 2 * (q : Int))) ([3 + 2 * (q : Int)] ++ [4 + 2 * (q : Int)]) = 0 := by
  show List.findIdx _ [3 + 2 * (q : Int), 4 + 2 * (q : Int)] = 0
  rw [List.findIdx_cons, decide_eq_true rfl]
  rfl
 rw [w1, if_pos (by simp)]
 rfl
theorem lp_take {m q K : Nat} {y : Int} {ys : List Int} (h : q < m) (hm : m ≤ 60) (hy : 0 < y) (hy4 : y ≤ 4) (first : Int) (hf : first = 2 * (q : Int)) :
  dcTake (lpA 0 m) (List.replicate (2 * q) 0 ++ dbl (y :: ys)) 1 2 0 first (K + 2) (dcRows (lpA 0 m) (2 * m + 3) (2 * m)) =
   some (⟨99, [2 * (q : Int), 2 * (q : Int) + 1], y⟩, List.replicate (2 * (q + 1)) 0 ++ dbl ys, 0, dcRows (lpA 0 m) (2 * m + 3) (2 * m)) := by
 subst hf
 obtain ⟨h0, h1⟩ := lp_left q y ys
 have d0 : ((2 * q : Nat) : Int) = 2 * (q : Int) := by omega
 have d1 : ((2 * q + 1 : Nat) : Int) = 2 * (q : Int) + 1 := by omega
 have g := lpA_get m 0 q h
 have f0 : (rd_T30 (lpA 0 m) (2 * (q : Int))).f0 = 3 + 2 * (q : Int) := by
  unfold rd_T30
  rw [List.getD_eq_getElem?_getD, ← d0, Int.toNat_natCast, g.1]
  show 3 + 2 * ((0 + q : Nat) : Int) = _
  omega
 have hit : dcItem (lpA 0 m) (List.replicate (2 * q) 0 ++ dbl (y :: ys)) 1 2 0 (2 * (q : Int)) (K + 2) (dcRows (lpA 0 m) (2 * m + 3) (2 * m)) = some (99, [2 * (q : Int), 2 * (q : Int) + 1], dcRows (lpA 0 m) (2 * m + 3) (2 * m)) := by
  unfold dcItem
  rw [if_neg (by decide), if_neg (by decide), f0]
  exact lp_walk h hy h0 h1
 have hlen : (List.replicate (2 * q) 0 ++ dbl (y :: ys)).length = 2 * q + (2 + 2 * ys.length) := by
  rw [List.length_append, List.length_replicate, dbl_len, List.length_cons]
  omega
 have a0 : rd (List.replicate (2 * q) 0 ++ dbl (y :: ys)) (2 * (q : Int)) = y := by rw [← d0]; exact rd_at h0
 have a1 : rd (List.replicate (2 * q) 0 ++ dbl (y :: ys)) (2 * (q : Int) + 1) = y := by rw [← d1]; exact rd_at h1
 have ham : dcAm (List.replicate (2 * q) 0 ++ dbl (y :: ys)) 0 99 [2 * (q : Int), 2 * (q : Int) + 1] = y := by
  unfold dcAm
  rw [if_pos rfl, show rd [2 * (q : Int), 2 * (q : Int) + 1] 0 = 2 * (q : Int) from rfl, dcMost, dcMost, dcMost, a0, a1]
  simp
 have hz : wrap64 (y - y) = 0 := by rw [Int.sub_self]; exact wrap_id (by decide) (by decide)
 have s1 : (List.replicate (2 * q) 0 ++ dbl (y :: ys)).set (2 * q) 0 = List.replicate (2 * q) 0 ++ 0 :: y :: dbl ys := by
  rw [List.set_append_right _ _ (by rw [List.length_replicate]; exact Nat.le_refl _), List.length_replicate, Nat.sub_self]
  rfl
 have b1 : rd (List.replicate (2 * q) 0 ++ 0 :: y :: dbl ys) (2 * (q : Int) + 1) = y := by
  rw [← d1]
  refine rd_at ?_
  rw [List.getElem?_append_right (by rw [List.length_replicate]; omega), List.length_replicate, show 2 * q + 1 - 2 * q = 1 by omega]
  rfl
 have s2 : (List.replicate (2 * q) 0 ++ 0 :: y :: dbl ys).set (2 * q + 1) 0 = List.replicate (2 * (q + 1)) 0 ++ dbl ys := by
  rw [List.set_append_right _ _ (by rw [List.length_replicate]; omega), List.length_replicate, show 2 * q + 1 - 2 * q = 1 by omega]
  exact lp_zeros q ys
 have hp : dcPour y [2 * (q : Int), 2 * (q : Int) + 1] (List.replicate (2 * q) 0 ++ dbl (y :: ys)) = List.replicate (2 * (q + 1)) 0 ++ dbl ys := by
  rw [dcPour, dcPour, dcPour, a0, hz, show (2 * (q : Int)).toNat = 2 * q by omega, s1, b1, hz, show (2 * (q : Int) + 1).toNat = 2 * q + 1 by omega, s2]
 have hall : (([2 * (q : Int), 2 * (q : Int) + 1] : List Int).all (fun r => decide (0 ≤ r ∧ r < (((List.replicate (2 * q) 0 ++ dbl (y :: ys)).length : Nat) : Int)))) = true := by
  rw [hlen]
  simp only [List.all_cons, List.all_nil, Bool.and_true, Bool.and_eq_true, decide_eq_true_eq]
  omega
 unfold dcTake
 rw [hit]
 simp only [Option.bind_some]
 rw [if_neg (by simp), if_pos ⟨hall, by simp⟩, ham, hp]
 rfl
theorem lp_find {q first : Nat} {y : Int} {ys : List Int} (hf : first ≤ 2 * q) (hy : 0 < y) : first + dcIxP ((List.replicate (2 * q) 0 ++ dbl (y :: ys)).drop first) = 2 * q := by
 have e : (List.replicate (2 * q) (0 : Int) ++ dbl (y :: ys)).drop first = List.replicate (2 * q - first) 0 ++ dbl (y :: ys) := by
  rw [List.drop_append_of_le_length (by rw [List.length_replicate]; exact hf), List.drop_replicate]
 have k : ∀ c : Nat, dcIxP (List.replicate c (0 : Int) ++ dbl (y :: ys)) = c := fun c => by
  induction c with
  | zero =>
   show List.findIdx _ (y :: y :: dbl ys) = 0
   rw [List.findIdx_cons, decide_eq_true hy]
   rfl
  | succ c ih =>
   unfold dcIxP at ih ⊢
   rw [List.replicate_succ, List.cons_append, List.findIdx_cons, ih]
   rfl
 rw [e, k]
 omega
theorem lp_none {q first : Nat} (hf : first ≤ 2 * q) : first + dcIxP ((List.replicate (2 * q) (0 : Int)).drop first) = 2 * q := by
 have k : ∀ c : Nat, dcIxP (List.replicate c (0 : Int)) = c := fun c => by
  induction c with
  | zero => rfl
  | succ c ih =>
   unfold dcIxP at ih ⊢
   rw [List.replicate_succ, List.findIdx_cons, ih]
   rfl
 rw [List.drop_replicate, k]
 omega
theorem lp_run {m K : Nat} (hm : m ≤ 60) : ∀ (ys : List Int) (q first fuel : Nat) (out : List S36), q + ys.length = m → first ≤ 2 * q → ys.length + 1 ≤ fuel → out.length + ys.length ≤ 1000000 → (∀ y ∈ ys, 0 ≤ y ∧ y ≤ 4) →
  dcRun (lpA 0 m) 1 2 (K + 2) fuel (List.replicate (2 * q) 0 ++ dbl ys) 0 first (dcRows (lpA 0 m) (2 * m + 3) (2 * m)) out = some (out ++ lpI q ys)
 | [], q, first, fuel, out, hq, hf, hfu, ho, hy => by
  obtain ⟨f, rfl⟩ : ∃ f, fuel = f + 1 := ⟨fuel - 1, by simp at hfu; omega⟩
  rw [dcRun, dbl, List.append_nil, lp_none hf, List.length_replicate, if_neg (by omega), lpI, List.append_nil]
 | y :: ys, q, first, fuel, out, hq, hf, hfu, ho, hy => by
  rw [List.length_cons] at hq hfu ho
  have h1 := hy y List.mem_cons_self
  have hr : ∀ z ∈ ys, 0 ≤ z ∧ z ≤ 4 := fun z hz => hy z (List.mem_cons_of_mem _ hz)
  by_cases c : 0 < y
  ·obtain ⟨f, rfl⟩ : ∃ f, fuel = f + 1 := ⟨fuel - 1, by omega⟩
   have hlen : (List.replicate (2 * q) 0 ++ dbl (y :: ys)).length = 2 * q + (2 + 2 * ys.length) := by
    rw [List.length_append, List.length_replicate, dbl_len, List.length_cons]
    omega
   rw [dcRun, lp_find hf c, if_pos (by rw [hlen]; omega), if_pos (by omega), lp_take (by omega) hm c h1.2 _ (by omega)]
   simp only [Option.bind_some]
   rw [lp_run hm ys (q + 1) (2 * q) f _ (by omega) (by omega) (by omega) (by rw [List.length_append, List.length_singleton]; omega) hr, lpI, if_pos c, List.append_assoc]
   rfl
  ·have e : y = 0 := by omega
   subst e
   rw [lp_zeros, lp_run hm ys (q + 1) first fuel out (by omega) (by omega) (by omega) (by omega) hr, lpI, if_neg c]
theorem lp_split {X : List Int} (hX : ∀ y ∈ X, 0 ≤ y ∧ y ≤ 4) (hm : X.length ≤ 60) : Ev (fun k => decomp_Split.f k (2 + 2 * (X.length : Int)) 1 2 (lpA 0 X.length) (dbl X)) (lpI 0 X, 0) := by
 have hal := lpA_len 0 X.length
 have hg := lpA_good X.length 0 (2 + 2 * (X.length : Int)) (by omega)
 have hr : Right (2 + 2 * (X.length : Int)) 1 2 (lpA 0 X.length) := ⟨by omega, by omega, by omega, by omega, by omega, by omega, by decide, by rw [hal]; omega, hg, by rw [lpA_sum]; omega⟩
 have hF : IsFlow (2 + 2 * (X.length : Int)) 1 2 (lpA 0 X.length) (dbl X) := ⟨lp_within X 0 hX, fun v _ _ _ _ => lp_exc X 0 v⟩
 have hv := value_flow hr hF
 rw [lp_exc X 0 2] at hv
 unfold decomp_Split.f
 refine Ev.bind hv ?_
 have hfit : dcFit (2 + 2 * (X.length : Int)) 1 2 (lpA 0 X.length) (dbl X) = true := by
  unfold dcFit
  rw [Bool.and_eq_true]
  refine ⟨decide_eq_true ⟨by omega, by omega, by omega, by omega, by omega, by omega, by rw [hal]; omega, by rw [hal, dbl_len]⟩, List.all_eq_true.2 (fun a ha => decide_eq_true ?_)⟩
  have g := hg a ha
  exact ⟨by have := g.1; omega, g.2.1, by have := g.2.2.1; omega, g.2.2.2.1⟩
 simp only [if_true, hfit]
 have e : (2 + 2 * (X.length : Int) + 1).toNat = 2 * X.length + 3 := by omega
 rw [e, hal]
 have hrun : Ev (fun k => dcRun (lpA 0 X.length) 1 2 k k (dbl X) 0 0 (dcRows (lpA 0 X.length) (2 * X.length + 3) (2 * X.length)) []) (lpI 0 X) := ⟨X.length + 2, fun k hk => by
  obtain ⟨K, rfl⟩ : ∃ K, k = K + 2 := ⟨k - 2, by omega⟩
  have h_ := lp_run (m := X.length) (K := K) hm X 0 0 (K + 2) [] (by omega) (by omega) (by omega) (by simp; omega) hX
  exact h_⟩
 refine Ev.bind hrun ?_
 exact Ev.now _
theorem lpI_snoc : ∀ (xs : List Int) (q : Nat) (x : Int), lpI q (xs ++ [x]) = lpI q xs ++ (if 0 < x then [⟨99, [2 * ((q + xs.length : Nat) : Int), 2 * ((q + xs.length : Nat) : Int) + 1], x⟩] else [])
 | [], q, x => by
  show (if 0 < x then _ :: lpI (q + 1) [] else lpI (q + 1) []) = _
  split <;> rfl
 | y :: xs, q, x => by
  have h := lpI_snoc xs (q + 1) x
  rw [show q + 1 + xs.length = q + (y :: xs).length by rw [List.length_cons]; omega] at h
  show (if 0 < y then _ :: lpI (q + 1) (xs ++ [x]) else lpI (q + 1) (xs ++ [x])) = (if 0 < y then _ :: lpI (q + 1) xs else lpI (q + 1) xs) ++ _
  rw [h]
  by_cases c : 0 < y
  ·rw [if_pos c, if_pos c]; rfl
  ·rw [if_neg c, if_neg c]
theorem lpI_len : ∀ (xs : List Int) (q : Nat), (lpI q xs).length ≤ xs.length
 | [], _ => Nat.le_refl _
 | x :: xs, q => by
  have := lpI_len xs (q + 1)
  rw [lpI]
  split <;> simp <;> omega
theorem lp_check {X : List Int} (hm : X.length ≤ 60) (hX : ∀ y ∈ X, 0 ≤ y ∧ y ≤ 4) (its : List S36) (hil : its.length ≤ 60) : ∀ (ys pre : List Int) (done : List S36), pre ++ ys = X → done ++ lpI pre.length ys = its →
  Ev (fun k => racewaylaw15_DecompLoops.l1 k (dbl X) its (2 * (pre.length : Int)) (done.length : Int)) true ∧
   (lpI pre.length ys ≠ [] → Ev (fun k => racewaylaw15_DecompLoops.l2 k (dbl X) its (2 * (pre.length : Int)) (done.length : Int)) true)
 | [], pre, done, hp, hd => by
  rw [lpI, List.append_nil] at hd
  subst hd
  refine ⟨?_, fun h => absurd rfl h⟩
  refine Ev.step (f := fun _ => some true) (fun k => ?_) (Ev.now _)
  simp only [racewaylaw15_DecompLoops.l1]
  rw [if_neg (by omega)]
 | y :: ys, pre, done, hp, hd => by
  have hpl : (pre ++ [y]).length = pre.length + 1 := by simp
  have hxl : X.length = pre.length + (ys.length + 1) := by rw [← hp, List.length_append, List.length_cons]
  have hy := hX y (by rw [← hp]; simp)
  have hdl := dbl_len X
  have hat : (dbl X)[2 * pre.length]? = some y := by
   rw [← hp, dbl_app, List.getElem?_append_right (by rw [dbl_len]; exact Nat.le_refl _), dbl_len, Nat.sub_self]
   rfl
  have hrd : rd (dbl X) (2 * (pre.length : Int)) = y := by
   rw [show (2 * (pre.length : Int)) = ((2 * pre.length : Nat) : Int) by omega]
   exact rd_at hat
  have q0 : (0 : Int) ≤ 2 * (pre.length : Int) := by omega
  have q1 : 2 * (pre.length : Int) < ((dbl X).length : Int) := by rw [hdl]; omega
  have hp60 : pre.length ≤ 60 := by omega
  have hy0 : ¬ 0 < y → y = 0 := fun c => by omega
  have hpn : 0 < y → ¬ y = 0 := fun c => by omega
  have hw2 : wrap64 (2 * (pre.length : Int) + 2) = 2 * ((pre ++ [y]).length : Int) := by
   rw [hpl]
   clear hy0 hpn q0 q1 hdl hxl hpl hy hrd hat
   rw [wr_small (by omega) (by omega)]
   omega
  have hl2 : lpI pre.length (y :: ys) ≠ [] → Ev (fun k => racewaylaw15_DecompLoops.l2 k (dbl X) its (2 * (pre.length : Int)) (done.length : Int)) true := by
   intro hne
   by_cases c : 0 < y
   ·rw [lpI, if_pos c] at hd
    have hd2 : (done ++ [⟨99, [2 * (pre.length : Int), 2 * (pre.length : Int) + 1], y⟩]) ++ lpI (pre ++ [y]).length ys = its := by rw [hpl, List.append_assoc]; exact hd
    have ih := (lp_check hm hX its hil ys (pre ++ [y]) _ (by rw [List.append_assoc]; exact hp) hd2).1
    rw [show (done ++ [(⟨99, [2 * (pre.length : Int), 2 * (pre.length : Int) + 1], y⟩ : S36)]).length = done.length + 1 by simp] at ih
    have hdi : done.length < its.length := by rw [← hd]; simp
    have hd60 : done.length ≤ 60 := Nat.le_trans (Nat.le_of_lt hdi) hil
    have hget : rd_T36 its (done.length : Int) = ⟨99, [2 * (pre.length : Int), 2 * (pre.length : Int) + 1], y⟩ := by
     unfold rd_T36
     rw [List.getD_eq_getElem?_getD, Int.toNat_natCast, ← hd, List.getElem?_append_right (Nat.le_refl _), Nat.sub_self]
     rfl
    have hw1 : wrap64 ((done.length : Int) + 1) = ((done.length + 1 : Nat) : Int) := lp_up hd60
    have hw3 : wrap64 (2 * (pre.length : Int) + 1) = 2 * (pre.length : Int) + 1 := lp_odd hp60
    have p0 : (0 : Int) ≤ (done.length : Int) := Int.natCast_nonneg _
    have p1 : (done.length : Int) < (its.length : Int) := Int.ofNat_lt.2 hdi
    have p2 : ¬ y = 0 := hpn c
    refine Ev.step (fun k => ?_) ih
    simp only [racewaylaw15_DecompLoops.l2]
    rw [if_pos q0, if_pos q1, hrd, if_neg p2, if_pos p0, if_pos p1, hget, hw1, hw2, hw3]
    simp only [if_true, show rd [2 * (pre.length : Int), 2 * (pre.length : Int) + 1] 0 = 2 * (pre.length : Int) from rfl, show rd [2 * (pre.length : Int), 2 * (pre.length : Int) + 1] 1 = 2 * (pre.length : Int) + 1 from rfl]
    rfl
   ·have e : y = 0 := hy0 c
    rw [lpI, if_neg c] at hd hne
    have ih := (lp_check hm hX its hil ys (pre ++ [y]) done (by rw [List.append_assoc]; exact hp) (by rw [hpl]; exact hd)).2 (by rw [hpl]; exact hne)
    refine Ev.step (fun k => ?_) ih
    simp only [racewaylaw15_DecompLoops.l2]
    rw [if_pos q0, if_pos q1, hrd, if_pos e, hw2]
  refine ⟨?_, hl2⟩
  by_cases c : (done.length : Int) < (its.length : Int)
  ·refine Ev.step (fun k => ?_) (hl2 ?_)
   ·simp only [racewaylaw15_DecompLoops.l1]
    rw [if_pos c]
   ·intro h0
    rw [h0, List.append_nil] at hd
    subst hd
    omega
  ·refine Ev.step (f := fun _ => some true) (fun k => ?_) (Ev.now _)
   simp only [racewaylaw15_DecompLoops.l1]
   rw [if_neg c]
def lpX (raws : List Int) (i : Nat) : List Int := (raws.take i).map (fun c => pk c 5)
theorem lpX_len {raws : List Int} {i : Nat} (h : i ≤ raws.length) : (lpX raws i).length = i := by
 unfold lpX
 rw [List.length_map, List.length_take]
 omega
theorem lpX_mem {raws : List Int} {i : Nat} : ∀ y ∈ lpX raws i, 0 ≤ y ∧ y ≤ 4 := fun y hy => by
 obtain ⟨c, _, rfl⟩ := List.mem_map.1 hy
 have := pk_range (c := c) (n := 5) (by decide)
 exact ⟨this.1, by show pk c 5 ≤ 4; omega⟩
theorem lpX_succ {raws : List Int} {i : Nat} (h : i < raws.length) : lpX raws (i + 1) = lpX raws i ++ [pk raws[i] 5] := by
 unfold lpX
 rw [List.take_succ_eq_append_getElem h, List.map_append]
 rfl
theorem lp_l0 {raws : List Int} (hw : ∀ x ∈ raws, -9223372036854775808 ≤ x ∧ x ≤ 9223372036854775807) (hm : raws.length ≤ 60) (d : Nat) : ∀ i : Nat, i + d = raws.length →
  Ev (fun k => racewaylaw15_DecompLoops.l0 k raws (dbl (lpX raws i)) ((lpI 0 (lpX raws i)).length : Int) (i : Int) (2 + 2 * (raws.length : Int)) 1 2 (lpA 0 i)) true := by
 induction d with
 | zero =>
  intro i hi
  have e : i = raws.length := by omega
  subst e
  have hl := lpX_len (raws := raws) (Nat.le_refl _)
  have hs := lp_split (lpX_mem (raws := raws) (i := raws.length)) (by rw [hl]; exact hm)
  rw [hl] at hs
  have hil : (lpI 0 (lpX raws raws.length)).length ≤ 60 := by have := lpI_len (lpX raws raws.length) 0; omega
  have hc := (lp_check (X := lpX raws raws.length) (by rw [hl]; exact hm) lpX_mem _ hil (lpX raws raws.length) [] [] rfl rfl).1
  refine Ev.step (f := ?g) (fun k => ?h) ?e
  case h =>
   simp only [racewaylaw15_DecompLoops.l0]
   rw [if_neg (by omega)]
  case e =>
   refine Ev.bind hs ?_
   simp only [if_true, bne_self_eq_false]
   refine Ev.step (fun k => ?_) hc
   simp only [racewaylaw15_DecompLoops.j2]
   rw [if_neg (by decide)]
   rfl
 | succ d ih =>
  intro i hi
  have hil : i < raws.length := by omega
  have hb := hw raws[i] (List.getElem_mem hil)
  have hp : racewaylaw15_pick.f (rd raws (i : Int)) 5 = some (pk raws[i] 5) := by
   rw [rd_get hil]
   exact pick_eq hb.1 hb.2 (by decide)
  clear hb
  have hal := lpA_len 0 i
  have hxl := lpX_len (raws := raws) (i := i) (by omega)
  have hdl := dbl_len (lpX raws i)
  have hcl := lpI_len (lpX raws i) 0
  have c0 : (i : Int) < (raws.length : Int) := by omega
  have c1 : (0 : Int) ≤ (i : Int) := by omega
  have c2 : (lpA 0 i).length < 5864062014805 := by omega
  have c3 : ∀ a, (lpA 0 i ++ [a]).length < 5864062014805 := fun a => by rw [List.length_append, List.length_singleton]; omega
  have c4 : (dbl (lpX raws i)).length < 17592186044416 := by omega
  have c5 : ∀ a, (dbl (lpX raws i) ++ [a]).length < 17592186044416 := fun a => by rw [List.length_append, List.length_singleton]; omega
  have c6 : i ≤ 60 := by omega
  have c7 : (lpI 0 (lpX raws i)).length ≤ 60 := by omega
  have hnext := ih (i + 1) (by omega)
  have hsn := lpI_snoc (lpX raws i) 0 (pk raws[i] 5)
  have hA := lpA_snoc 0 i
  rw [show 0 + i = i by omega] at hA
  have hD : dbl (lpX raws i ++ [pk raws[i] 5]) = dbl (lpX raws i) ++ [pk raws[i] 5] ++ [pk raws[i] 5] := by
   rw [dbl_app, List.append_assoc]
   rfl
  rw [lpX_succ hil, hA, hD, hsn] at hnext
  refine Ev.step (fun k => ?_) hnext
  simp only [racewaylaw15_DecompLoops.l0]
  rw [if_pos c0, if_pos c1, hp]
  simp only [Option.bind_some]
  rw [lp_up c6, (lp_arc c6).1, (lp_arc c6).2.1, (lp_arc c6).2.2]
  by_cases c : 0 < pk raws[i] 5
  ·rw [if_pos c, if_pos c2, if_pos (c3 _), if_pos c4, if_pos (c5 _), lp_up c7, if_pos c, List.length_append, List.length_singleton]
  ·rw [if_neg c, if_pos c2, if_pos (c3 _), if_pos c4, if_pos (c5 _), if_neg c, List.append_nil]
theorem DecompLoops : racewaylaw15_DecompLoops.Pure := by
 intro l _ _ hw
 have hw2 : ∀ x ∈ l, -9223372036854775808 ≤ x ∧ x ≤ 9223372036854775807 := fun x hx => wf_bounds (hw x hx)
 have h : Ev (fun k => racewaylaw15_DecompLoops.f k l) true := by
  unfold racewaylaw15_DecompLoops.f
  refine Ev.bind shown15_ev ?_
  simp only [if_true]
  by_cases c : (l.length : Int) > 60
  ·rw [decide_eq_true c]
   refine Ev.step (f := fun _ => some true) (fun k => ?_) (Ev.now _)
   simp only [racewaylaw15_DecompLoops.j0]
   rw [if_pos (by trivial)]
  ·rw [decide_eq_false c]
   have hl0 := lp_l0 hw2 (by omega) l.length 0 (by omega)
   refine Ev.step (fun k => ?_) hl0
   simp only [racewaylaw15_DecompLoops.j0]
   rw [if_neg (by decide), wr_small (x := 2 * (l.length : Int)) (by omega) (by omega), wr_small (x := 2 + 2 * (l.length : Int)) (by omega) (by omega)]
   rfl
 exact Ev.rounds h
end Go.Proofs.Ytnjdjnoncoeffaa.Pure
