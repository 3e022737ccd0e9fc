/- splay: Row (contract by hand). -/
import Derived.Test.YtcnmbgijehnchaaS16
import Derived.Maps.AppendAt
set_option linter.unusedVariables false
set_option linter.unusedSimpArgs false
namespace Go.Proofs.YtcnmbgijehnchaaW.Splay
open Go.RowKit Go.Shelf Go.Proofs.YtcnmbgijehnchaaW.PrintWords Go.Proofs.YtcnmbgijehnchaaW.PrintLast Go.Proofs.YtcnmbgijehnchaaW.PrintMore Go.Proofs.YtcnmbgijehnchaaW.Mine
attribute [local go_sem] max2_int min2_int max_two min_two max_three min_three max_four min_four Oper.semAt_some
theorem topN_in {N : Nat} {s : Fo} (h : Good N s) : ∀ (k : Nat) {i : Nat} {r : Int}, i < N → topN s k (i : Int) = some r → ∃ m : Nat, m < N ∧ r = (m : Int)
  | 0, i, r, _, h0 => by simp [topN] at h0
  | k + 1, i, r, hi, h0 => by
    rw [topN] at h0
    rcases (h i hi).1 with e | ⟨j, hj, e⟩
    · rw [if_pos e] at h0
      exact ⟨i, hi, (Option.some.inj h0).symm⟩
    · rw [e, if_neg (by omega)] at h0
      exact topN_in h k hj h0
theorem own_low {W : World} {base base' e size n : Nat} {v : Value} {xs : List Value} (h : W.ownsRow base e size v n xs) (hb : base' ≤ base) : W.ownsRow base' e size v n xs := by
  obtain ⟨hl, h0 | ⟨g, cap, cur, hv, h1, h2, h3, h4, h5, h6⟩⟩ := h
  · exact ⟨hl, .inl h0⟩
  · exact ⟨hl, .inr ⟨g, cap, cur, hv, Nat.le_trans hb h1, h2, h3, h4, h5, h6⟩⟩
theorem below_put {W : World} {n l : Nat} {o o' : Obj} (hl : n ≤ l) (ho : W.heap[l]? = some o) : Below n W (W.putObj l o') :=
  (Below.refl _ W).grown (grownBy_putObj' W l o') (by have h_ := (Array.getElem?_eq_some_iff.1 ho).1; omega) (fun r e => by cases e; omega)
theorem appended_at {W w1 : World} {b k : Nat} {v u : Value} {tmp : Obj} (hg : (W.alloc tmp).grownBy w1 v.ownBlock) (hk : k < W.heap.size) (hb : k ≠ b) (hv : v.ownBlock ≠ some k) : (w1.setCell ⟨b, 0, none⟩ u).heap[k]? = W.heap[k]? :=
  (Below.heap_setCell w1 ⟨b, 0, none⟩ u k hb).trans ((hg.block k (by rw [World.size_alloc]; omega) hv.symm).trans (Below.heap_alloc _ _ _ hk))
def ints (xs : List Int) : List Value := xs.map fun x => .int .i64 x
/-- What Row keeps between two rounds. -/
def RowI (w : World) (B : Nat) (pre : List Int) (W : World) : Prop := (∃ v, Boxed W B 22 v ∧ W.ownsRow (w.heap.size + 1 + 1 + 1) 3 1 v pre.length (ints pre) ∧ (v = .slice none 0 0 ↔ pre = [])) ∧ Below w.heap.size w W ∧ w.heap.size + 1 + 1 + 1 ≤ W.heap.size
theorem RowI.kept {w : World} {B : Nat} {pre : List Int} {W W1 : World} (h : RowI w B pre W) {row : Option Nat} (hg : W.grownBy W1 row) (hr : ∀ r, row = some r → w.heap.size ≤ r ∧ r ≠ B ∧ ∀ cs, W.heap[r]? ≠ some (.cells cs 3 (0, 0))) : RowI w B pre W1 := by
  obtain ⟨⟨v, h1, h2, h3⟩, h4, h5⟩ := h
  refine ⟨⟨v, h1.kept hg (fun e => (hr B e.symm).2.1 rfl), own_kept h2 (fun g hg' => ?_), h3⟩, ?_⟩
  · obtain ⟨hb, cs, hcs⟩ := own_typed h2 g hg'
    exact hg.block g (Array.getElem?_eq_some_iff.1 hcs).1 (fun e => (hr g e.symm).2.2 cs hcs)
  · exact ⟨h4.grown hg h4.size (fun r e => (hr r e).1), Nat.le_trans h5 hg.size⟩
set_option maxHeartbeats 8000000 in
set_option maxRecDepth 100000 in
theorem row_calls {w0 w W : World} {gs gn N cap : Nat} {s : Fo} (h : Pt w0 W gs gn N cap s w) (k : Nat) (hk : k ≤ 4000000) {i : Nat} (hi : i < N) {L : List Int} (hL : L.length ≤ 1000000) (hs : rowN k s (i : Int) = some L) :
    Calls Try.prog 20 #[.pointer (some ⟨gs, 0, none⟩), .int .i64 (i : Int)] w fun e w' => ∃ v, e = .returned v ∧ Below w.heap.size w w' ∧ w'.ownsRow w.heap.size 3 1 v L.length (ints L) := by
  have HP0 := Aside0.mk h
  have HSZ := Aside0.mk h.1.sp.ke
  obtain ⟨r, hr, hA⟩ := Option.bind_eq_some_iff.1 hs
  obtain ⟨m, hm, rfl⟩ := topN_in h.1.good k hi hr
  have HA := Aside0.mk hA
  have HL := Aside0.mk hL
  have HTP := Aside0.mk hr
  have hN := h.1.small
  have i0 : (0 : Int) ≤ (i : Int) := Int.natCast_nonneg i
  have i1 : (i : Int) < (N : Int) := by omega
  have hx0 := h.1.sp.sl
  clear h hs hr hA hL
  refine (callsIn_wide (n := 5)).1 ?_
  refine callsIn_of_wp_marks Try.func20 rfl trivial ?_ rfl
  refine wpIn_wide.2 ?_
  simp only [Try.ntmps20, List.size_toArray, List.length_cons, List.length_nil, Nat.reduceAdd, Nat.reduceSub, Array.replicate_succ, Array.replicate_zero, List.push_toArray, List.append_toArray, List.nil_append, List.cons_append]
  go_wp2_with (go_at_call 41; (with_reducible refine (there_in HP0.out.1 hi).mono ?_); rintro e w' ⟨rfl, hw⟩; have hw := hw.symm; subst hw)
  clear i0 i1
  go_loopg [1] k (fun kq v1 wr => ∃ (j : Nat), v1 = .int .i64 (j : Int) ∧ Aside0 (j < N) ∧ wr = w ∧ Aside0 (topN s kq (j : Int) = some (m : Int)))
  case atStart => exact ⟨i, rfl, ⟨hi⟩, rfl, HTP⟩
  case round =>
    clear HTP hi
    obtain ⟨j, rfl, HJ, hw, HT⟩ := hrel
    have hw := hw.symm
    subst hw
    obtain ⟨f, hf⟩ : ∃ f, gk = f + 1 := by
      cases gk with
      | zero => have h_ := HT.out; simp [topN] at h_
      | succ f => exact ⟨f, rfl⟩
    subst hf
    have hj := HJ.out
    have j0 : (0 : Int) ≤ (j : Int) := Int.natCast_nonneg j
    have j1 : (j : Int) < (N : Int) := by omega
    have g0 := HP0.out.1.sp.g0 hj
    have hT := HT.out
    rw [topN] at hT
    obtain ⟨u, hu⟩ : ∃ u, (s (j : Int)).up = u := ⟨_, rfl⟩
    have hI := (HP0.out.1.good j hj).1
    rw [hu] at g0 hT hI
    rcases hI with rfl | ⟨q, hq, rfl⟩
    · rw [if_pos rfl] at hT
      obtain rfl : j = m := by have h_ := Option.some.inj hT; omega
      have n0 : ((-1 : Int) != -1) = false := rfl
      clear hT HT hj HJ
      go_wp2_with (go_at_call 48; refine (all_calls _ _ _).mono ?_; rintro e w' ⟨rfl, rfl⟩)
      obtain ⟨W3, hW3⟩ : ∃ W3, ((w.alloc (.cells #[.slice none 0 0] 22)).alloc (.cells #[.pointer (some ⟨gs, 0, none⟩)] 26)).alloc (.cells #[.int .i64 (j : Int)] 3) = W3 := ⟨_, rfl⟩
      rw [hW3]
      have hb3 : Below w.heap.size w W3 := by rw [← hW3]; exact below_alloc (below_alloc (below_alloc (Below.refl _ _) _) _) _
      have hz3 : W3.heap.size = w.heap.size + 1 + 1 + 1 := by rw [← hW3]; simp
      have b0 : Boxed W3 w.heap.size 22 (.slice none 0 0) := by rw [← hW3]; exact ((Boxed.new w _ _).alloc _).alloc _
      have b1 : Boxed W3 (w.heap.size + 1) 26 (.pointer (some ⟨gs, 0, none⟩)) := by
        rw [← hW3]
        have h_ := Boxed.new (w.alloc (.cells #[.slice none 0 0] 22)) 26 (.pointer (some ⟨gs, 0, none⟩))
        rw [World.size_alloc] at h_
        exact h_.alloc _
      have b2 : Boxed W3 (w.heap.size + 1 + 1) 3 (.int .i64 (j : Int)) := by
        rw [← hW3]
        have h_ := Boxed.new ((w.alloc (.cells #[.slice none 0 0] 22)).alloc (.cells #[.pointer (some ⟨gs, 0, none⟩)] 26)) 3 (.int .i64 (j : Int))
        rw [World.size_alloc, World.size_alloc] at h_
        exact h_
      have hV : Vz w0 gs gn N cap s (w.heap.size + 1 + 1) (w.heap.size + 1) (j : Int) W3 := ⟨HP0.out.1.sp.move hb3, b2, b1⟩
      have HW3 := Aside0.mk hW3
      have HB3 := Aside0.mk (And.intro hb3 hz3)
      clear hW3
      obtain ⟨i0, hi0, hz0, hz1, hz2⟩ := info_parts info_int
      refine (wpIn_wide (n := 5)).1 ?_
      refine range_y (gf := 56) (lb := #[.pointer (some ⟨w.heap.size + 1 + 1, 0, none⟩), .pointer (some ⟨w.heap.size + 1, 0, none⟩)]) (L := L) (tl := 79) rfl (enters_of Try.func56 (by kernel_rfl) rfl)
        (all1_seq k (n0 := w.heap.size) hN HP0.out.1.good (Ix.nat hm) hk HA.out hV HSZ.out.1 HSZ.out.2.1 HSZ.out.2.2.2.2.1 hb3.size)
        (fun h1 h2 => ⟨h1.below.trans h2.below, h2.br.trans h1.br, h2.bx.trans h1.bx, fun k_ cs hc => (h2.lv k_ cs ((h1.lv k_ cs hc).trans hc)).trans (h1.lv k_ cs hc)⟩)
        (fun W_ l o o' hl ho h1 => ⟨below_put (by omega) ho, World.putObj_heap_other (by omega), World.putObj_heap_other (by omega), fun k_ cs hc => World.putObj_heap_other (fun e => by subst e; rw [hc] at ho; cases ho; cases h1)⟩)
        rfl (RowI w w.heap.size)
        (fun s_ A_ B_ row h1 hg hr => h1.kept hg (fun r e => ⟨by have h_ := (hr r e).1; omega, by have h_ := (hr r e).1; omega, fun cs hc => by obtain ⟨_, o, ho, h2_⟩ := hr r e; rw [hc] at ho; cases ho; cases h2_⟩))
        (fun s_ A_ B_ row h1 hg hr => h1.kept hg (fun r e => ⟨by have h_ := (hr r e).1; omega, by have h_ := (hr r e).1; omega, fun cs hc => by obtain ⟨_, cs_, ho⟩ := hr r e; rw [hc] at ho; cases ho⟩))
        ⟨⟨_, b0, World.ownsRow_nil _ _ _ _, by simp⟩, hb3, by omega⟩
        (fun x => { tmps := #[.pointer (some ⟨gs, 0, none⟩), .int .i64 (j : Int), undef, undef, .slice none 0 0, .pointer (some ⟨w.heap.size, 0, none⟩), .int .i64 x, .pointer (some ⟨gs, 0, none⟩), .int .i64 (i : Int), .bool true, .bool false, .pointer (some ⟨gs, 0, none⟩), .pointer (some ⟨gs, 0, none⟩), .pointer (some ⟨gs, 0, none⟩), .slice (some ⟨gn, 0, none⟩) N cap, .int .i64 (j : Int), .pointer (some ⟨gn, j * 9, none⟩), .pointer (some ⟨gn, j * 9, none⟩), .int .i64 (-1), .bool false, u20, u21, u22, u23, u24, u25, u26, u27, .pointer (some ⟨gs, 0, none⟩), .int .i64 (j : Int), .func (.func 56) #[] #[.pointer (some ⟨w.heap.size + 1 + 1, 0, none⟩), .pointer (some ⟨w.heap.size + 1, 0, none⟩)], .int .i64 x, undef, undef, undef, undef, undef], defers := [] }) ?assign ?body ?done
      case assign =>
        intro l x W_ K_ hK_
        gi_wp2
        exact hK_
      case body =>
        rintro l pre x W_ ⟨⟨v, hv, hrow, hnil⟩, hbw, hb3w⟩ hlt
        have hcv := hv.cell
        have hfv := hv.frozen
        have hlen : pre.length + 1 ≤ 1000000 := by have h_ := HL.out; omega
        have hWz := hbw.size
        have HROW := Aside0.mk hrow
        gi_wp2_with (gi_at_builtin; refine wpListIn_append_own _ rfl _ _ 22 rfl (w.heap.size + 1 + 1 + 1) 3 i0 (.int .i64 0) 1 8 Try.underlying22 hi0 hz0 hz1 hz2 rfl (by decide) _ _ _ rfl (HROW.out.alloc _) ⟨W_.heap.size, 0, none⟩ 1 1 [.int .i64 x] rfl rfl (cell_one_new _ _ _) (by simp [Value.oneCell']) (by unfold maxLen; omega) (by omega) (by simp; omega) ?_; intro v' w1 hown' hgrow _; obtain ⟨g', cap', rfl⟩ := ownsRow_succ hown'; obtain ⟨hv1, hv2, hr2, hk2, hb2⟩ := hv.appended (by decide) (own_low HROW.out (Nat.le_add_right w.heap.size 3)) (by omega) (Nat.le_refl _) (own_low hown' (Nat.le_add_right w.heap.size 3)) hgrow; have hc1 := hv1.cell; have hf1 := hv1.frozen)
        have hoff : ∀ g, v.ownBlock = some g → w.heap.size + 1 + 1 + 1 ≤ g ∧ ∃ cs, W_.heap[g]? = some (.cells cs 3 (0, 0)) := own_typed HROW.out
        have hoff' : ∀ g, (Value.slice (some ⟨g', 0, none⟩) (pre.length + 1) cap').ownBlock = some g → w.heap.size + 1 + 1 + 1 ≤ g ∧ ∃ cs, w1.heap[g]? = some (.cells cs 3 (0, 0)) := own_typed hown'
        refine ⟨hk2.from _, ⟨hb2, appended_at hgrow (by omega) (by omega) (fun e => by have h_ := (hoff _ e).1; omega), appended_at hgrow (by omega) (by omega) (fun e => by have h_ := (hoff _ e).1; omega), fun k_ cs hc => ?_⟩, ⟨_, hv2, ?_, by simp⟩, hbw.trans hb2, Nat.le_trans hb3w hb2.size⟩
        · refine appended_at hgrow (Array.getElem?_eq_some_iff.1 hc).1 (fun e => ?_) (fun e => ?_)
          · have h_ := hv
            unfold Boxed at h_
            rw [← e, hc] at h_
            cases h_
          · obtain ⟨_, cs2, h2_⟩ := hoff _ e
            rw [hc] at h2_
            cases h2_
        · rw [show (pre ++ [x]).length = pre.length + 1 by simp, show ints (pre ++ [x]) = ints pre ++ [.int .i64 x] by simp [ints]]
          exact own_kept hown' (fun g hg => Below.heap_setCell w1 ⟨w.heap.size, 0, none⟩ _ g (fun (e : g = w.heap.size) => by have h_ := (hoff' g hg).1; omega))
      case done =>
        rintro D W_ hD ⟨⟨v, hv, hrow, hnil⟩, hbw, hb3w⟩ hKD
        have hcv := hv.cell
        go_wp2
        refine ⟨by simp, .inl ⟨_, _, rfl, run_takeDeferred hKD, ?_⟩⟩
        exact ⟨_, results_tmp rfl _ _ _, _, rfl, hbw.trans (below_put (by omega) hKD), own_low (ownsRow_putObj hrow _ hKD rfl) (Nat.le_add_right w.heap.size 3)⟩
    · rw [if_neg (by omega)] at hT
      have n1 : ((q : Int) != -1) = true := bne_iff_ne.mpr (by omega)
      have HT2 := Aside0.mk hT
      clear hT HT
      go_wp2
      go_roundg f
      case measure => omega
      case rel => exact ⟨q, rfl, ⟨hq⟩, rfl, HT2⟩
end Go.Proofs.YtcnmbgijehnchaaW.Splay
