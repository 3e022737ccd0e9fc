/- Chains of nodes: plain Lean, no program. -/
import Derived.Test.YtcnmbgijehnchaaTT
set_option linter.unusedVariables false
set_option linter.unusedSimpArgs false
namespace Go.Proofs.YtcnmbgijehnchaaW.Splay
open Go.RowKit Go.Shelf Go.Proofs.YtcnmbgijehnchaaW.PrintWords Go.Proofs.YtcnmbgijehnchaaW.PrintLast Go.Proofs.YtcnmbgijehnchaaW.PrintMore Go.Proofs.YtcnmbgijehnchaaW.Mine
/-- Each of the first i nodes hangs below the next one. -/
def chainUp (i : Int) : Int → Int := fun y => if 0 ≤ y ∧ y < i then y + 1 else -1
theorem chain_bare : chainUp 0 = bare := by
  funext y
  exact if_neg (by omega)
theorem chain_put {i : Int} (h : 0 ≤ i) : put (chainUp i) i (i + 1) = chainUp (i + 1) := by
  funext y
  unfold put chainUp
  by_cases c : y = i
  · rw [if_pos c, if_pos (by omega), c]
  · rw [if_neg c]
    by_cases c2 : 0 ≤ y ∧ y < i
    · rw [if_pos c2, if_pos (by omega)]
    · rw [if_neg c2, if_neg (by omega)]
/-- m nodes from k on. -/
def upto (k : Int) : Nat → List Int
  | 0 => []
  | m + 1 => k :: upto (k + 1) m
theorem upto_len : ∀ (k : Int) (m : Nat), (upto k m).length = m
  | _, 0 => rfl
  | k, m + 1 => by rw [upto, List.length_cons, upto_len (k + 1) m]
theorem upto_mem {y : Int} : ∀ {k : Int} {m : Nat}, y ∈ upto k m ↔ k ≤ y ∧ y < k + (m : Int)
  | k, 0 => by simp [upto]
  | k, m + 1 => by
    rw [upto, List.mem_cons, upto_mem]
    omega
theorem upto_at : ∀ {k : Int} {m j : Nat}, j < m → (upto k m)[j]? = some (k + (j : Int))
  | k, m + 1, 0, _ => by simp [upto]
  | k, m + 1, j + 1, h => by
    rw [upto, List.getElem?_cons_succ, upto_at (by omega)]
    congr 1
    omega
theorem upto_split : ∀ (k : Int) (a b : Nat), upto k (a + b) = upto k a ++ upto (k + (a : Int)) b
  | k, 0, b => by simp [upto]
  | k, a + 1, b => by
    rw [show a + 1 + b = (a + b) + 1 by omega, upto, upto_split (k + 1) a b, upto, List.cons_append]
    congr 3
    omega
/-- The way up in a chain that ends at e. -/
theorem chain_way {N e : Int} {up : Int → Int} (he : up e = -1) (he1 : e < N) : ∀ (m : Nat) {k : Int}, 0 ≤ k → k + (m : Int) = e → (∀ y, k ≤ y → y < e → up y = y + 1) → Way N up k (upto k (m + 1))
  | 0, k, h0, h1, _ => by
    have e1 : k = e := by omega
    subst e1
    exact Way.mk_root h0 he1 he
  | m + 1, k, h0, h1, h2 => by
    have h3 := chain_way he he1 m (k := k + 1) (by omega) (by omega) (fun y a b => h2 y (by omega) b)
    exact Way.mk_up h0 (by omega) (h2 k (Int.le_refl _) (by omega)) h3
/-- m + 1 nodes from k on down. -/
def downto (k : Int) : Nat → List Int
  | 0 => [k]
  | m + 1 => k :: downto (k - 1) m
theorem downto_len : ∀ (k : Int) (m : Nat), (downto k m).length = m + 1
  | _, 0 => rfl
  | k, m + 1 => by rw [downto, List.length_cons, downto_len (k - 1) m]
theorem downto_last : ∀ (k : Int) (m : Nat), ∃ a, downto k m = a ++ [k - (m : Int)]
  | k, 0 => ⟨[], by simp [downto]⟩
  | k, m + 1 => by
    obtain ⟨a, e⟩ := downto_last (k - 1) m
    refine ⟨k :: a, ?_⟩
    rw [downto, e, List.cons_append]
    congr 3
    omega
theorem upto_last (k : Int) (m : Nat) : ∃ a, upto k (m + 1) = a ++ [k + (m : Int)] := ⟨upto k m, by rw [upto_split k m 1]; rfl⟩
theorem down_way {N e : Int} {up : Int → Int} (he : up e = -1) (he0 : 0 ≤ e) : ∀ (m : Nat) {k : Int}, k < N → e + (m : Int) = k → (∀ y, e < y → y ≤ k → up y = y - 1) → Way N up k (downto k m)
  | 0, k, h0, h1, _ => by
    have e1 : k = e := by omega
    subst e1
    exact Way.mk_root he0 h0 he
  | m + 1, k, h0, h1, h2 => by
    have h3 := down_way (N := N) he he0 m (k := k - 1) (by omega) (by omega) (fun y a b => h2 y a (by omega))
    exact Way.mk_up (by omega) h0 (h2 k (by omega) (Int.le_refl _)) h3
theorem upto_nodup (k : Int) (m : Nat) : (upto k m).Nodup := by
  induction m generalizing k with
  | zero => exact List.nodup_nil
  | succ m ih =>
    rw [upto, List.nodup_cons]
    exact ⟨fun h => by rw [upto_mem] at h; omega, ih (k + 1)⟩
/-- A chain that is rooted anew at k: the three places. -/
theorem turn_low {up : Int → Int} {k y : Int} {m : Nat} (h : y < k) : turnUp up (upto k m) y = up y := turnUp_out (fun h2 => by rw [upto_mem] at h2; omega)
theorem turn_mid {up : Int → Int} {k : Int} {m : Nat} : turnUp up (upto k (m + 1)) k = -1 := by
  have h := upto_nodup k (m + 1)
  rw [upto] at h ⊢
  exact turnUp_head h
theorem turn_high {up : Int → Int} {k y : Int} {m : Nat} (h1 : k < y) (h2 : y < k + (m : Int)) : turnUp up (upto k m) y = y - 1 := by
  obtain ⟨j, hj⟩ : ∃ j : Nat, y = k + (j : Int) + 1 := ⟨(y - k - 1).toNat, by omega⟩
  obtain ⟨r, hr⟩ : ∃ r : Nat, m = j + (r + 2) := ⟨m - j - 2, by omega⟩
  have e : upto k m = upto k j ++ (k + (j : Int)) :: y :: upto (y + 1) r := by
    rw [hr, upto_split, upto, upto, hj]
  have hn := upto_nodup k m
  rw [e] at hn ⊢
  rw [turnUp_at hn]
  omega
theorem upto_rev {n p : Nat} (h : p < n) : (upto 0 n).reverse[p]? = some ((n : Int) - 1 - (p : Int)) := by
  rw [List.getElem?_reverse (by rw [upto_len]; exact h), upto_len, upto_at (by omega)]
  congr 1
  omega
theorem chain_next {N i : Int} (h0 : 0 ≤ i) (h1 : i + 1 < N) : chainUp i i = -1 ∧ i < N ∧ Way N (chainUp i) (i + 1) [i + 1] ∧ i ∉ [i + 1] ∧ chainUp (i + 1) (i + 1) = -1 ∧ 0 ≤ i + 1 ∧ Way N (chainUp (i + 1)) i ([i] ++ [i + 1]) := by
  have e1 : ∀ j : Int, chainUp j j = -1 := fun j => if_neg (by omega)
  have e2 : chainUp i (i + 1) = -1 := if_neg (by omega)
  refine ⟨e1 i, by omega, Way.mk_root (by omega) h1 e2, by simp; omega, e1 _, by omega, ?_⟩
  exact Way.mk_up h0 (by omega) (if_pos (by omega)) (Way.mk_root (by omega) h1 (e1 _))
/-- The whole chain's way, from its first node and from any. -/
theorem chain_all {N : Int} {e n k : Nat} (hN : N = (n : Int)) (he : e + 1 = n) (hk : k < n) : Way N (chainUp (e : Int)) (k : Int) (upto (k : Int) (n - k - 1 + 1)) :=
  chain_way (e := (e : Int)) (if_neg (by omega)) (by omega) (n - k - 1) (by omega) (by omega) (fun y a b => if_pos ⟨by omega, b⟩)
theorem chain_all0 {N : Int} {e n : Nat} (hN : N = (n : Int)) (he : e + 1 = n) : Way N (chainUp (e : Int)) 0 (upto 0 n) := by
  have h := chain_all (k := 0) hN he (by omega)
  rwa [show n - 0 - 1 + 1 = n by omega] at h
/-- The chain rooted anew: each node's way. -/
theorem chain3_low {N : Int} {e n k i : Nat} (hN : N = (n : Int)) (he : e + 1 = n) (hk : k < n) (hi : i < k) : ∃ a : List Int, ∃ q : Nat, a.length = q ∧ i + q = k ∧ Way N (turnUp (chainUp (e : Int)) (upto (k : Int) (n - k - 1 + 1))) (i : Int) (a ++ [(k : Int)]) ∧ turnUp (chainUp (e : Int)) (upto (k : Int) (n - k - 1 + 1)) (i : Int) = (i : Int) + 1 := by
  have h1 : ∀ y : Int, (i : Int) ≤ y → y < (k : Int) → turnUp (chainUp (e : Int)) (upto (k : Int) (n - k - 1 + 1)) y = y + 1 := fun y a b => by
    rw [turn_low b]
    exact if_pos (by omega)
  have h2 := chain_way (N := N) (e := (k : Int)) turn_mid (by omega) (k - i) (k := (i : Int)) (by omega) (by omega) h1
  obtain ⟨a, ha⟩ := upto_last (i : Int) (k - i)
  rw [show (i : Int) + ((k - i : Nat) : Int) = (k : Int) by omega] at ha
  rw [ha] at h2
  have h3 := congrArg List.length ha
  rw [upto_len, List.length_append, List.length_singleton] at h3
  exact ⟨a, k - i, by omega, by omega, h2, h1 _ (Int.le_refl _) (by omega)⟩
theorem chain3_mid {N : Int} {e n k : Nat} (hN : N = (n : Int)) (he : e + 1 = n) (hk : k < n) : ∃ a : List Int, a.length = 0 ∧ Way N (turnUp (chainUp (e : Int)) (upto (k : Int) (n - k - 1 + 1))) (k : Int) (a ++ [(k : Int)]) ∧ turnUp (chainUp (e : Int)) (upto (k : Int) (n - k - 1 + 1)) (k : Int) = -1 :=
  ⟨[], rfl, Way.mk_root (by omega) (by omega) turn_mid, turn_mid⟩
theorem chain3_high {N : Int} {e n k i : Nat} (hN : N = (n : Int)) (he : e + 1 = n) (hk : k < i) (hi : i < n) : ∃ a : List Int, ∃ q : Nat, a.length = q ∧ k + q = i ∧ Way N (turnUp (chainUp (e : Int)) (upto (k : Int) (n - k - 1 + 1))) (i : Int) (a ++ [(k : Int)]) ∧ turnUp (chainUp (e : Int)) (upto (k : Int) (n - k - 1 + 1)) (i : Int) = (i : Int) - 1 := by
  have h1 : ∀ y : Int, (k : Int) < y → y ≤ (i : Int) → turnUp (chainUp (e : Int)) (upto (k : Int) (n - k - 1 + 1)) y = y - 1 := fun y a b => turn_high a (by omega)
  have h2 := down_way (N := N) (e := (k : Int)) turn_mid (by omega) (i - k) (k := (i : Int)) (by omega) (by omega) h1
  obtain ⟨a, ha⟩ := downto_last (i : Int) (i - k)
  rw [show (i : Int) - ((i - k : Nat) : Int) = (k : Int) by omega] at ha
  rw [ha] at h2
  have h3 := congrArg List.length ha
  rw [downto_len, List.length_append, List.length_singleton] at h3
  exact ⟨a, i - k, by omega, by omega, h2, h1 _ (by omega) (Int.le_refl _)⟩
end Go.Proofs.YtcnmbgijehnchaaW.Splay
