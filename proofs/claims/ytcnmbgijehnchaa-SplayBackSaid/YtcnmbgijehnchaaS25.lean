/- Rows that a call hands back, read again and again; acts on rows. -/
import Derived.Test.YtcnmbgijehnchaaS24
set_option linter.unusedVariables false
set_option linter.unusedSimpArgs false
namespace Go.Proofs.YtcnmbgijehnchaaW.Splay
open Go.RowKit Go.Shelf Go.Proofs.YtcnmbgijehnchaaW.PrintWords Go.Proofs.YtcnmbgijehnchaaW.PrintLast Go.Proofs.YtcnmbgijehnchaaW.PrintMore Go.Proofs.YtcnmbgijehnchaaW.Mine
/-- A row of cells that hold these numbers. -/
structure RowC (w : World) (g : Nat) (xs : List Int) : Prop where
  lt : g < w.heap.size
  at_ : ∀ j (h : j < xs.length), w.cell? ⟨g, j, none⟩ = some (.int .i64 xs[j])
section
variable {w0 w w1 : World} {g gs gn N cap : Nat} {xs : List Int} {Ws Vs : List (List (Int × Int))} {W V L R : List (Int × Int)} {x y v : Int}
theorem RowC.ke (h : RowC w g xs) (hk : Ke gs gn w w1) (h1 : g ≠ gs) (h2 : g ≠ gn) : RowC w1 g xs :=
  ⟨Nat.lt_of_lt_of_le h.lt hk.size, fun j hj => (cell_of_heap (hk.heap g h.lt h1 h2)).trans (h.at_ j hj)⟩
theorem RowC.below (h : RowC w g xs) (hb : Below w.heap.size w w1) : RowC w1 g xs :=
  ⟨Nat.lt_of_lt_of_le h.lt hb.size, fun j hj => (cell_of_heap (hb.block g h.lt)).trans (h.at_ j hj)⟩
theorem RowC.get (h : RowC w g xs) {j : Nat} {u : Int} (hj : xs[j]? = some u) : w.cell? ⟨g, j, none⟩ = some (.int .i64 u) := by
  obtain ⟨h1, h2⟩ := List.getElem?_eq_some_iff.1 hj
  rw [h.at_ j h1, h2]
theorem RowC.take (h : RowC w g xs) (k : Nat) : Rds w (some ⟨g, 0, none⟩) (xs.take k) := by
  refine .inr ⟨_, rfl, fun j hj => ⟨?_, h.lt⟩⟩
  rw [add_plain, List.getElem_take]
  exact h.at_ j _
theorem RowC.drop (h : RowC w g xs) (k : Nat) : Rds w (some ⟨g, k, none⟩) (xs.drop k) := by
  refine .inr ⟨_, rfl, fun j hj => ⟨?_, h.lt⟩⟩
  have e : (⟨g, k, none⟩ : Addr).add j = ⟨g, k + j, none⟩ := by unfold Addr.add; split <;> simp_all
  rw [e, List.getElem_drop]
  exact h.at_ (k + j) _
theorem RowC.all (h : RowC w g xs) : Rds w (some ⟨g, 0, none⟩) xs := by
  have h1 := h.take xs.length
  rwa [List.take_length] at h1
theorem own_row {base e n : Nat} {u : Value} (h : w.ownsRow base e 1 u n (ints xs)) (hn : 0 < n) : ∃ g c, u = .slice (some ⟨g, 0, none⟩) n c ∧ n ≤ c ∧ c ≤ maxLen ∧ base ≤ g ∧ xs.length = n ∧ RowC w g xs := by
  obtain ⟨A, c, rfl, h1, h2, h3, h4⟩ := Rds.own h
  have hl : xs.length = n := by
    have h5 := h.1
    simp [ints] at h5
    exact h5
  rcases h3 with e | ⟨a, rfl, h3⟩
  · subst e
    simp at hl
    omega
  · obtain ⟨k1, k2, k3⟩ := h4 a rfl
    rcases h.2 with ⟨e, _⟩ | ⟨g, cap, cur, e, _⟩
    · cases e
    · injection e with e1 e2 e3
      injection e1 with e1
      subst e1
      refine ⟨g, c, by rw [hl], by omega, h2, k1, hl, k3, fun j hj => ?_⟩
      have := (h3 j hj).1
      rwa [add_plain] at this
theorem same_n {A B : Option Addr} {ys : List Int} {c d n m : Nat} (hn : xs.length = n) (hm : ys.length = m) (ha : Rds w A xs) (hb : Rds w B ys) (hl : n ≤ 1000000) (hl2 : m ≤ 1000000) :
    Calls Try.prog 19 #[.slice A n c, .slice B m d] w fun e w' => e = .returned (.bool (decide (xs = ys))) ∧ Drawn0 w w' := by
  subst hn hm
  exact same_calls ha hb hl hl2
/-- The row of an item, as cells. -/
theorem Fm.rowc (h : Fm w0 w gs gn N cap Ws) (hW : W ∈ Ws) (hx : x ∈ W.map Prod.fst) :
    Calls Try.prog 20 #[.pointer (some ⟨gs, 0, none⟩), .int .i64 x] w fun e w' => ∃ g c, e = .returned (.slice (some ⟨g, 0, none⟩) W.length c) ∧ W.length ≤ c ∧ c ≤ maxLen ∧ w.heap.size ≤ g ∧ RowC w' g (W.map Prod.fst) ∧ Fm w0 w' gs gn N cap Ws ∧ Below w.heap.size w w' := by
  refine (h.row hW hx).mono ?_
  rintro e w' ⟨u, he, ho, hF, hb⟩
  have hp := List.length_pos_iff.2 (h.ne hW)
  obtain ⟨g, c, rfl, h1, h2, h3, h4, h5⟩ := own_row ho hp
  exact ⟨g, c, he, h1, h2, h3, h5, hF, hb⟩
/-- Each item has its value. -/
def Vok (vs : List Int) (Ws : List (List (Int × Int))) : Prop := ∀ W ∈ Ws, ∀ y ∈ W, y.2 = vs.getD y.1.toNat 0
theorem Vok.sub {vs : List Int} (h : Vok vs Ws) (hs : ∀ V ∈ Vs, ∀ y ∈ V, ∃ W ∈ Ws, y ∈ W) : Vok vs Vs := fun V hV y hy => by
  obtain ⟨W, hW, hy⟩ := hs V hV y hy
  exact h W hW y hy
theorem two_perm (h1 : W ∈ Ws) (h2 : V ∈ Ws) (hne : W ≠ V) : ∃ Vs, Ws.Perm (W :: V :: Vs) := by
  have p1 := List.perm_cons_erase h1
  have h3 : V ∈ Ws.erase W := (List.mem_erase_of_ne hne.symm).2 h2
  exact ⟨_, p1.trans ((List.perm_cons_erase h3).cons _)⟩
theorem part_at (hx : x ∈ W.map Prod.fst) : ∃ L v R, W = L ++ (x, v) :: R := by
  obtain ⟨⟨a, v⟩, hy, rfl⟩ := List.mem_map.1 hx
  obtain ⟨L, R, e⟩ := List.append_of_mem hy
  exact ⟨L, v, R, e⟩
/-- Two rows are joined. -/
theorem Fm.act_join {vs : List Int} (h : Fm w0 w gs gn N cap Ws) (hv : Vok vs Ws) (hW : W ∈ Ws) (hV : V ∈ Ws) (hx : x ∈ W.map Prod.fst) (hy : y ∈ V.map Prod.fst) (c : W ≠ V) :
    Calls Try.prog 15 #[.pointer (some ⟨gs, 0, none⟩), .int .i64 x, .int .i64 y] w fun e w' => e = .returned (.int .i64 0) ∧ ∃ Us U, Fm w0 w' gs gn N cap Us ∧ Ke gs gn w w' ∧ Vok vs Us ∧ U ∈ Us ∧ x ∈ U.map Prod.fst ∧ U.length = W.length + V.length := by
  obtain ⟨Vs, hp⟩ := two_perm hW hV c
  refine (h.join hp hx hy).mono ?_
  rintro e w' ⟨he, hF, hK⟩
  refine ⟨he, _, _, hF, hK, hv.sub (fun U hU q hq => ?_), List.mem_cons_self, by rw [List.map_append]; exact List.mem_append_left _ hx, by simp⟩
  rcases List.mem_cons.1 hU with rfl | hU
  · rcases List.mem_append.1 hq with hq | hq
    · exact ⟨W, hW, hq⟩
    · exact ⟨V, hV, hq⟩
  · exact ⟨U, hp.mem_iff.2 (List.mem_cons_of_mem _ (List.mem_cons_of_mem _ hU)), hq⟩
theorem Fm.act_turn {vs : List Int} (h : Fm w0 w gs gn N cap Ws) (hv : Vok vs Ws) (hW : W ∈ Ws) (hx : x ∈ W.map Prod.fst) :
    Calls Try.prog 17 #[.pointer (some ⟨gs, 0, none⟩), .int .i64 x] w fun e w' => (∃ v, e = .returned v) ∧ ∃ Us, Fm w0 w' gs gn N cap Us ∧ Ke gs gn w w' ∧ Vok vs Us := by
  refine (h.turn (List.perm_cons_erase hW) hx).mono ?_
  rintro e w' ⟨he, hF, hK⟩
  refine ⟨he, _, hF, hK, hv.sub (fun U hU q hq => ?_)⟩
  rcases List.mem_cons.1 hU with rfl | hU
  · exact ⟨W, hW, List.mem_reverse.1 hq⟩
  · exact ⟨U, List.mem_of_mem_erase hU, hq⟩
theorem Fm.act_split {vs : List Int} (h : Fm w0 w gs gn N cap Ws) (hv : Vok vs Ws) (hW : L ++ (x, v) :: R ∈ Ws) :
    Calls Try.prog 18 #[.pointer (some ⟨gs, 0, none⟩), .int .i64 x] w fun e w' => e = .returned (.int .i64 0) ∧ ∃ Us, Fm w0 w' gs gn N cap Us ∧ Ke gs gn w w' ∧ Vok vs Us ∧ (x, v) :: R ∈ Us ∧ (L ≠ [] → L ∈ Us) := by
  refine (h.split (List.perm_cons_erase hW)).mono ?_
  rintro e w' ⟨he, hF, hK⟩
  refine ⟨he, _, hF, hK, hv.sub (fun U hU q hq => ?_), ?_, fun hL => ?_⟩
  · unfold cutL at hU
    rcases List.mem_append.1 hU with hU | hU
    · split at hU
      · cases hU
      · rw [List.mem_singleton] at hU
        subst hU
        exact ⟨_, hW, List.mem_append_left _ hq⟩
    · rcases List.mem_cons.1 hU with rfl | hU
      · exact ⟨_, hW, List.mem_append_right _ hq⟩
      · exact ⟨U, List.mem_of_mem_erase hU, hq⟩
  · unfold cutL
    exact List.mem_append_right _ List.mem_cons_self
  · unfold cutL
    rw [if_neg hL]
    exact List.mem_append_left _ (List.mem_singleton.2 rfl)
end
end Go.Proofs.YtcnmbgijehnchaaW.Splay
