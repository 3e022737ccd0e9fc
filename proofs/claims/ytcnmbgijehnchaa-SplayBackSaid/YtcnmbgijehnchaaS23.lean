/- A forest beside another; new forests by how many; rows from an item on. -/
import Derived.Test.YtcnmbgijehnchaaS22
set_option linter.unusedVariables false
set_option linter.unusedSimpArgs false
namespace Go.Proofs.YtcnmbgijehnchaaW.Splay
open Go.RowKit Go.Shelf Go.Proofs.YtcnmbgijehnchaaW.PrintWords Go.Proofs.YtcnmbgijehnchaaW.PrintLast Go.Proofs.YtcnmbgijehnchaaW.PrintMore Go.Proofs.YtcnmbgijehnchaaW.Mine
section
variable {w0 w w1 : World} {gs gn N cap : Nat} {Ws : List (List (Int × Int))} {vs : List Int} {n : Nat}
theorem Fm.lift (h : Fm w w1 gs gn N cap Ws) (hb : Below w0.heap.size w0 w) : Fm w0 w1 gs gn N cap Ws := by
  obtain ⟨⟨s, ⟨h1, h4, h5⟩, h2⟩, h3⟩ := h
  have hz := hb.size
  obtain ⟨b1, ⟨st, b2⟩, ⟨cs, b3, b4⟩⟩ := h1
  exact ⟨⟨s, ⟨⟨hb.trans (b1.mono hz), ⟨st, b2.1, Nat.le_trans hz b2.2.1, b2.2.2⟩, ⟨cs, ⟨b3.1, Nat.le_trans hz b3.2.1, b3.2.2⟩, b4⟩⟩, h4, h5⟩, h2⟩, h3⟩
theorem Fm.other (h : Fm w0 w gs gn N cap Ws) {gt gm : Nat} (hk : Ke gt gm w w1) (hb : Below w0.heap.size w0 w1) (h1 : gs ≠ gt) (h2 : gs ≠ gm) (h3 : gn ≠ gt) (h4 : gn ≠ gm) : Fm w0 w1 gs gn N cap Ws := by
  obtain ⟨⟨s, ⟨k1, k4, k5⟩, k2⟩, k3⟩ := h
  exact ⟨⟨s, ⟨k1.ke_stay hk hb h1 h2 h3 h4, k4, k5⟩, k2⟩, k3⟩
theorem Fm.newn {A : Option Addr} {c : Nat} (hn : vs.length = n) (hb : Below w0.heap.size w0 w) (hr : Rds w A vs) (h1 : n ≤ 3000) (h0 : 0 < n) (hv : ∀ v ∈ vs, -4611686018427387904 ≤ v ∧ v ≤ 4611686018427387904) :
    Calls Try.prog 14 #[.slice A n c] w fun e w' => e = .returned (.tuple #[.pointer (some ⟨w.heap.size, 0, none⟩), .int .i64 0]) ∧ Below w.heap.size w w' ∧ ∃ gn cap, w.heap.size < gn ∧ Fm w0 w' w.heap.size gn n cap (ones vs) := by
  subst hn
  refine (Fm.new (w0 := w) (Below.refl _ _) hr h1 h0 hv).mono ?_
  rintro e w' ⟨he, hB, gn, cap, hF⟩
  have hk := hF.ke
  exact ⟨he, hB, gn, cap, by omega, hF.lift hb⟩
def rowFrom (vs : List Int) (k n : Nat) : List (Int × Int) := ((List.range n).drop k).map (item vs)
theorem rowTo_from (vs : List Int) {k n : Nat} (h : k ≤ n) : rowTo vs n = rowTo vs k ++ rowFrom vs k n := by
  unfold rowTo rowFrom
  rw [← List.map_append]
  congr 1
  conv => lhs; rw [← List.take_append_drop k (List.range n)]
  rw [List.take_range, Nat.min_eq_left h]
theorem rowFrom_cons (vs : List Int) {k n : Nat} (h : k < n) : rowFrom vs k n = item vs k :: rowFrom vs (k + 1) n := by
  unfold rowFrom
  rw [drop_range h]
  rfl
theorem rowFrom_length (vs : List Int) (k n : Nat) : (rowFrom vs k n).length = n - k := by simp [rowFrom]
theorem rowTo_ne {vs : List Int} {k : Nat} (h : 0 < k) : rowTo vs k ≠ [] := fun e => by
  have := rowTo_length vs k
  rw [e] at this
  simp at this
  omega
theorem singles_all (vs : List Int) (hn : vs.length = n) : singles vs n = [] := by
  unfold singles
  rw [hn, List.drop_eq_nil_of_le (by simp)]
  rfl
theorem rowTo_rev_at {vs : List Int} {n i : Nat} (h : i < n) : ((rowTo vs n).reverse.map Prod.fst).getD i (-1) = ((n - 1 - i : Nat) : Int) := by
  have h1 : ((rowTo vs n).reverse.map Prod.fst)[i]? = some ((n - 1 - i : Nat) : Int) := by
    rw [List.getElem?_map, List.getElem?_reverse (by rw [rowTo_length]; exact h), rowTo_length, rowTo_at (by omega)]
    rfl
  rw [List.getD_eq_getElem?_getD, h1]
  rfl
theorem rowTo_rev_part {vs : List Int} {n i : Nat} (h : i < n) : ∃ L R, (rowTo vs n).reverse = L ++ ((i : Int), vs.getD i 0) :: R ∧ L.length = n - 1 - i := by
  refine ⟨(rowFrom vs (i + 1) n).reverse, (rowTo vs i).reverse, ?_, by rw [List.length_reverse, rowFrom_length]; omega⟩
  rw [rowTo_from vs (Nat.le_of_lt h), rowFrom_cons vs h]
  simp [item]
theorem rowTo_first {vs : List Int} {n : Nat} (h : 0 < n) : ∃ R, rowTo vs n = ((0 : Int), vs.getD 0 0) :: R := by
  refine ⟨rowFrom vs 1 n, ?_⟩
  rw [rowTo_from vs (Nat.zero_le n), rowFrom_cons vs h]
  rfl
theorem rowTo_last {vs : List Int} {n : Nat} (h : 0 < n) : rowTo vs n = rowTo vs (n - 1) ++ [(((n - 1 : Nat) : Int), vs.getD (n - 1) 0)] := by
  conv => lhs; rw [show n = (n - 1) + 1 by omega, rowTo_succ]
  rfl
theorem wr2 (n i : Nat) (hi : i < n) (hn : n ≤ 1000000) : wrap64 ((n : Int) - 1 - (i : Int)) = (n : Int) - 1 - (i : Int) := by unfold wrap64; omega
theorem Fm.join_next0 {i : Nat} (h : Fm w0 w gs gn N cap (rowsAt vs i)) (hj : 0 < i) (hi : i < vs.length) :
    Calls Try.prog 15 #[.pointer (some ⟨gs, 0, none⟩), .int .i64 0, .int .i64 (i : Int)] w fun e w' => e = .returned (.int .i64 0) ∧ Fm w0 w' gs gn N cap (rowsAt vs (i + 1)) ∧ Ke gs gn w w' := h.join_next (j := 0) hj hi
theorem rowFrom_mem {vs : List Int} {k n : Nat} (h : k < n) : (k : Int) ∈ (rowFrom vs k n).map Prod.fst := by
  rw [rowFrom_cons vs h]
  exact List.mem_cons_self
theorem Fm.cut_at {k : Nat} (h : Fm w0 w gs gn N cap [rowTo vs n]) (h0 : 0 < k) (hk : k < n) :
    Calls Try.prog 18 #[.pointer (some ⟨gs, 0, none⟩), .int .i64 (k : Int)] w fun e w' => e = .returned (.int .i64 0) ∧ Fm w0 w' gs gn N cap [rowTo vs k, rowFrom vs k n] ∧ Ke gs gn w w' := by
  rw [rowTo_from vs (Nat.le_of_lt hk), rowFrom_cons vs hk] at h
  refine (h.split (x := (k : Int)) (v := vs.getD k 0) (List.Perm.refl _)).mono ?_
  rintro e w' ⟨he, hF, hK⟩
  refine ⟨he, ?_, hK⟩
  unfold cutL at hF
  rw [if_neg (rowTo_ne h0)] at hF
  rw [rowFrom_cons vs hk]
  exact hF
theorem Fm.place_rev {i : Nat} (h : Fm w0 w gs gn N cap [(rowTo vs n).reverse]) (hi : i < n) :
    Calls Try.prog 21 #[.pointer (some ⟨gs, 0, none⟩), .int .i64 (i : Int)] w fun e w' => e = .returned (.int .i64 ((n : Int) - 1 - (i : Int))) ∧ Fm w0 w' gs gn N cap [(rowTo vs n).reverse] ∧ Ke gs gn w w' := by
  obtain ⟨L, R, e, hl⟩ := rowTo_rev_part (vs := vs) hi
  rw [e] at h ⊢
  rw [show (n : Int) - 1 - (i : Int) = (L.length : Int) by omega]
  exact h.place List.mem_cons_self
theorem Fm.at_rev {i : Nat} (h : Fm w0 w gs gn N cap [(rowTo vs n).reverse]) (hi : i < n) :
    Calls Try.prog 22 #[.pointer (some ⟨gs, 0, none⟩), .int .i64 0, .int .i64 (i : Int)] w fun e w' => e = .returned (.int .i64 ((n : Int) - 1 - (i : Int))) ∧ Fm w0 w' gs gn N cap [(rowTo vs n).reverse] ∧ Ke gs gn w w' := by
  have h1 := h.at List.mem_cons_self (x := 0) (by rw [List.map_reverse]; exact List.mem_reverse.2 (rowTo_mem (j := 0) (by omega))) (i : Int)
  rw [if_neg (by omega), Int.toNat_natCast, rowTo_rev_at hi] at h1
  rw [show (n : Int) - 1 - (i : Int) = ((n - 1 - i : Nat) : Int) by omega]
  exact h1
theorem Fm.first_rev {k : Nat} (h : Fm w0 w gs gn N cap [(rowTo vs n).reverse]) (hk : k < n) :
    Calls Try.prog 23 #[.pointer (some ⟨gs, 0, none⟩), .int .i64 (k : Int)] w fun e w' => e = .returned (.int .i64 ((n : Int) - 1)) ∧ Fm w0 w' gs gn N cap [(rowTo vs n).reverse] ∧ Ke gs gn w w' := by
  have e : (rowTo vs n).reverse = (((n - 1 : Nat) : Int), vs.getD (n - 1) 0) :: (rowTo vs (n - 1)).reverse := by
    rw [rowTo_last (vs := vs) (n := n) (by omega), List.reverse_append]
    rfl
  have hm : (k : Int) ∈ ((rowTo vs n).reverse).map Prod.fst := by rw [List.map_reverse]; exact List.mem_reverse.2 (rowTo_mem hk)
  rw [e] at h hm ⊢
  rw [show (n : Int) - 1 = ((n - 1 : Nat) : Int) by omega]
  exact h.first List.mem_cons_self hm
theorem Fm.last_rev {k : Nat} (h : Fm w0 w gs gn N cap [(rowTo vs n).reverse]) (hk : k < n) :
    Calls Try.prog 24 #[.pointer (some ⟨gs, 0, none⟩), .int .i64 (k : Int)] w fun e w' => e = .returned (.int .i64 0) ∧ Fm w0 w' gs gn N cap [(rowTo vs n).reverse] ∧ Ke gs gn w w' := by
  obtain ⟨R, e⟩ := rowTo_first (vs := vs) (n := n) (by omega)
  have hm : (k : Int) ∈ ((rowTo vs n).reverse).map Prod.fst := by rw [List.map_reverse]; exact List.mem_reverse.2 (rowTo_mem hk)
  rw [e, List.reverse_cons] at h hm ⊢
  exact h.last List.mem_cons_self hm
theorem Fm.at_far {k : Nat} (h : Fm w0 w gs gn N cap [(rowTo vs n).reverse]) (hk : k < n) {pl : Int} (hp : pl < 0 ∨ (n : Int) ≤ pl) :
    Calls Try.prog 22 #[.pointer (some ⟨gs, 0, none⟩), .int .i64 (k : Int), .int .i64 pl] w fun e w' => e = .returned (.int .i64 (-1)) ∧ Fm w0 w' gs gn N cap [(rowTo vs n).reverse] ∧ Ke gs gn w w' := by
  have h1 := h.at List.mem_cons_self (x := (k : Int)) (by rw [List.map_reverse]; exact List.mem_reverse.2 (rowTo_mem hk)) pl
  have e : (if pl < 0 then (-1 : Int) else (((rowTo vs n).reverse).map Prod.fst).getD pl.toNat (-1)) = -1 := by
    split
    · rfl
    · rw [List.getD_eq_getElem?_getD, List.getElem?_eq_none (by rw [List.length_map, List.length_reverse, rowTo_length]; omega)]
      rfl
  rw [e] at h1
  exact h1
theorem Rds.zeros {W : World} {e n : Nat} : Rds (W.alloc (.cells (madeCells #[.int .i64 0] n) e)) (some ⟨W.heap.size, 0, none⟩) (List.replicate n 0) := by
  refine .inr ⟨_, rfl, fun j hj => ⟨?_, by simp⟩⟩
  rw [add_plain]
  refine (blk_cell (World.alloc_heap_new W _) j).trans ?_
  rw [made_at (by simpa using hj)]
  simp
end
end Go.Proofs.YtcnmbgijehnchaaW.Splay
