/- splay: an item is made the root of its tree (contract by hand). -/
import Derived.Test.YtcnmbgijehnchaaS7
set_option linter.unusedVariables false
set_option linter.unusedSimpArgs false
namespace Go.Proofs.YtcnmbgijehnchaaW.Splay
open Go.RowKit Go.Shelf Go.Proofs.YtcnmbgijehnchaaW.PrintWords Go.Proofs.YtcnmbgijehnchaaW.PrintLast Go.Proofs.YtcnmbgijehnchaaW.PrintMore Go.Proofs.YtcnmbgijehnchaaW.Mine
attribute [local go_sem] max2_int min2_int max_two min_two max_three min_three max_four min_four Oper.semAt_some
theorem info_int : (Try.prog.info? 3).map (fun i => (i.zero, i.size, i.bytes)) = some (some (.int .i64 0), 1, 8) := by kernel_rfl
theorem pathN_len (s : Fo) : ∀ (k : Nat) (u : Int) (xs w : List Int), pathN s k u xs = some w → xs.length ≤ w.length
  | 0, u, xs, w, h => by simp [pathN] at h
  | k + 1, u, xs, w, h => by
    rw [pathN] at h
    split at h
    · cases h
      exact Nat.le_refl _
    · have := pathN_len s k _ _ _ h
      rw [List.length_append, List.length_singleton] at this
      omega
/-- A path in the tree, as whole numbers. -/
def vals {N : Nat} (xs : List (Fin N)) : List Int := xs.map fun i => (i.val : Int)
def pushes {N : Nat} (s : Fo) (xs : List (Fin N)) : Fo := xs.foldl (fun s i => push s (i.val : Int)) s
theorem pushes_vals {N : Nat} (s : Fo) (xs : List (Fin N)) : (vals xs).reverse.foldl push s = pushes s xs.reverse := by
  unfold vals pushes
  rw [← List.map_reverse, List.foldl_map]
theorem vals_snoc {N : Nat} (xs : List (Fin N)) (x : Fin N) : vals (xs ++ [x]) = vals xs ++ [(x.val : Int)] := by simp [vals]
theorem vals_length {N : Nat} (xs : List (Fin N)) : (vals xs).length = xs.length := by simp [vals]
theorem Good.pushes {N : Nat} : ∀ (xs : List (Fin N)) {s : Fo}, Good N s → Good N (Go.Proofs.YtcnmbgijehnchaaW.Splay.pushes s xs)
  | [], s, h => h
  | x :: xs, s, h => Good.pushes xs (h.push x.isLt)
theorem pushes_snoc {N : Nat} (s : Fo) (xs : List (Fin N)) (x : Fin N) : pushes s (xs ++ [x]) = push (pushes s xs) (x.val : Int) := by
  unfold pushes
  rw [List.foldl_append]
  rfl
theorem Good.rot2 {N : Nat} {s : Fo} (h : Good N s) {i : Nat} (hi : i < N) {g : Int} (hg : Ix N g) (top : Int) : Good N (rot2 s (i : Int) g top) := by
  have h1 : Good N (Go.Proofs.YtcnmbgijehnchaaW.Splay.upd s (i : Int) { s (i : Int) with up := g }) := h.upd hg (h i hi).2.1 (h i hi).2.2
  unfold Go.Proofs.YtcnmbgijehnchaaW.Splay.rot2
  split
  · exact h1
  · rcases hg with rfl | ⟨m, hm, rfl⟩
    · exact absurd rfl ‹_›
    · obtain ⟨a, b, c⟩ := h1.setDn hm (sd := top) (Ix.nat hi)
      exact h1.upd a b c
theorem Good.rotate {N : Nat} {s : Fo} (h : Good N s) {i j : Nat} (hi : i < N) (hj : j < N) (hu : (s (i : Int)).up = (j : Int)) : Good N (rotate s (i : Int)) := by
  unfold Go.Proofs.YtcnmbgijehnchaaW.Splay.rotate
  rw [hu]
  have hb : Ix N (dn (s (i : Int)) (1 - side s (i : Int))) := by
    obtain ⟨_, b1, b2⟩ := h i hi
    rcases side_cases s (i : Int) with e | e <;> rw [e]
    · exact b2
    · exact b1
  exact ((((h.hang hb hj _).hang (Ix.nat hj) hi _).rot2 hi (h j hj).1 _).pull hj).pull hi
section
variable {tF tN : Nat} {w0 W W1 : World} {gs gn N cap : Nat} {s : Fo}
theorem Sp.ke (h : Sp tF tN (og gs gn) w0 W gs gn N cap s) : gs < W.heap.size ∧ gn < W.heap.size ∧ w0.heap.size ≤ gs ∧ w0.heap.size ≤ gn ∧ w0.heap.size ≤ W.heap.size ∧ gs ≠ gn := by
  obtain ⟨x, hx⟩ := h.box
  obtain ⟨cs, hc, hn⟩ := h.nodes
  refine ⟨blk_lt hx.2.2, blk_lt hc.2.2, hx.2.1, hc.2.1, h.below.size, fun e => ?_⟩
  have h1 := hx.1
  have h2 := hc.1
  subst e
  rw [h1] at h2
  omega
theorem Sp.two (h : Sp tF tN (og gs gn) w0 W gs gn N cap s) (h1 : W1.heap[gs]? = W.heap[gs]?) (h2 : W1.heap[gn]? = W.heap[gn]?) (hb : Below w0.heap.size w0 W1) : Sp tF tN (og gs gn) w0 W1 gs gn N cap s := by
  refine h.stay (T := fun t => t = 0) ⟨fun k hk hT => ?_, fun _ _ => rfl⟩ hb (by decide) (by decide)
  by_cases c : k = gs
  · subst c
    exact h1
  · by_cases c2 : k = gn
    · subst c2
      exact h2
    · refine absurd ?_ hT
      unfold og
      rw [if_neg c, if_neg c2]
/-- A forest abides whatever turns neither of its blocks, nor what lay at first. -/
theorem Sp.grown (h : Sp tF tN (og gs gn) w0 W gs gn N cap s) {row : Option Nat} (hg : W.grownBy W1 row) (hr : ∀ r, row = some r → w0.heap.size ≤ r ∧ r ≠ gs ∧ r ≠ gn) : Sp tF tN (og gs gn) w0 W1 gs gn N cap s := by
  have hz := h.ke
  refine h.two (hg.block gs hz.1 (fun e => (hr gs e.symm).2.1 rfl)) (hg.block gn hz.2.1 (fun e => (hr gn e.symm).2.2 rfl)) ?_
  have hb := h.below
  have hz := hg.size
  refine ⟨hg.os.trans hb.os, hg.tape.trans hb.tape, hg.output.trans hb.output, Nat.le_trans hb.size hz, fun k hk => (hg.block k (Nat.lt_of_lt_of_le hk hb.size) (fun e => ?_)).trans (hb.block k hk)⟩
  have := (hr k e.symm).1
  omega
theorem Sp.ke_stay (h : Sp tF tN (og gs gn) w0 W gs gn N cap s) {gs' gn' : Nat} (hk : Ke gs' gn' W W1) (hb : Below w0.heap.size w0 W1) (h1 : gs ≠ gs') (h2 : gs ≠ gn') (h3 : gn ≠ gs') (h4 : gn ≠ gn') : Sp tF tN (og gs gn) w0 W1 gs gn N cap s :=
  h.two (hk.heap gs h.ke.1 h1 h2) (hk.heap gn h.ke.2.1 h3 h4) hb
end
set_option maxHeartbeats 8000000 in
set_option maxRecDepth 100000 in
theorem splay_calls (k : Nat) {w0 w : World} {gs gn N cap : Nat} {s s' : Fo} (h : Sp 57 60 (og gs gn) w0 w gs gn N cap s) (hN : N ≤ 3000) (hgd : Good N s) {i : Nat} (hi : i < N) (hs : splayN k s (i : Int) = some s') :
    Calls Try.prog 42 #[.pointer (some ⟨gs, 0, none⟩), .int .i64 (i : Int)] w fun e w' => (∃ v, e = .returned v) ∧ Sp 57 60 (og gs gn) w0 w' gs gn N cap s' ∧ Ke gs gn w w' ∧ Good N s' := by
  unfold splayN at hs
  obtain ⟨p, hp, hs2⟩ : ∃ p, pathN s k (s (i : Int)).up [(i : Int)] = some p ∧ (if p.length ≤ 1000000 then spin (i : Int) k (p.reverse.foldl push s) else none) = some s' := by
    cases hq : pathN s k (s (i : Int)).up [(i : Int)] with
    | none => rw [hq] at hs; cases hs
    | some p => rw [hq] at hs; exact ⟨p, rfl, hs⟩
  have hpl : p.length ≤ 1000000 := by
    by_cases c : p.length ≤ 1000000
    · exact c
    · rw [if_neg c] at hs2; cases hs2
  rw [if_pos hpl] at hs2
  have HS := Aside0.mk h
  have HGD := Aside0.mk hgd
  have HPL := Aside0.mk hpl
  have HSP := Aside0.mk hs2
  have HSZ := Aside0.mk h.ke
  clear h hgd hs hs2 hpl
  have i0 : (0 : Int) ≤ (i : Int) := Int.natCast_nonneg i
  have i1 : (i : Int) < (N : Int) := by omega
  have hx0 := HS.out.sl
  have gi := HS.out.g0 hi
  obtain ⟨u, hu⟩ : ∃ u, (s (i : Int)).up = u := ⟨_, rfl⟩
  rw [hu] at gi hp
  have HU : Aside0 (Ix N u) := ⟨hu ▸ (HGD.out i hi).1⟩
  have HP : Aside0 (pathN s k u (vals [(⟨i, hi⟩ : Fin N)]) = some p) := ⟨hp⟩
  clear hp hu
  refine (callsIn_wide (n := 5)).1 ?_
  refine callsIn_of_wp_marks Try.func42 rfl trivial ?_ rfl
  refine wpIn_wide.2 ?_
  simp only [Try.ntmps42, List.size_toArray, List.length_cons, List.length_nil, Nat.reduceAdd, Nat.reduceSub, Array.replicate_succ, Array.replicate_zero, List.push_toArray, List.append_toArray, List.nil_append, List.cons_append]
  have hB2 : Below w.heap.size w ((w.alloc (.cells #[.pointer (some ⟨gs, 0, none⟩)] 26)).alloc (.cells #[.int .i64 (i : Int)] 3)) := below_alloc (below_alloc (Below.refl _ _) _) _
  have HS2 := Aside0.mk (HS.out.move hB2)
  have hx2 := HS2.out.sl
  have gi2 := (cell_of_heap (j := i * 9) (hB2.block gn HSZ.out.2.1)).trans gi
  have HBX : Aside0 (Boxed ((w.alloc (.cells #[.pointer (some ⟨gs, 0, none⟩)] 26)).alloc (.cells #[.int .i64 (i : Int)] 3)) w.heap.size 26 (.pointer (some ⟨gs, 0, none⟩))) := ⟨(Boxed.new w _ _).alloc _⟩
  have HR : Aside0 ((Kd.int .i64).R 3 ((w.alloc (.cells #[.pointer (some ⟨gs, 0, none⟩)] 26)).alloc (.cells #[.int .i64 (i : Int)] 3)) (w.heap.size + 1) (fun _ => True) (.slice (some ⟨w.heap.size + 1, 0, none⟩) 1 1) (vals [(⟨i, hi⟩ : Fin N)])) := ⟨by
    refine Kd.R_of_own (xs := vals [(⟨i, hi⟩ : Fin N)]) ⟨rfl, .inr ⟨_, _, #[.int .i64 (i : Int)], rfl, Nat.le_refl _, ?_, Nat.le_refl _, by decide, rfl, rfl⟩⟩ (fun _ _ => trivial)
    have h_ := World.alloc_heap_new (w.alloc (.cells #[.pointer (some ⟨gs, 0, none⟩)] 26)) (.cells #[.int .i64 (i : Int)] 3)
    rwa [World.size_alloc] at h_⟩
  have HSB : Aside0 (((w.alloc (.cells #[.pointer (some ⟨gs, 0, none⟩)] 26)).alloc (.cells #[.int .i64 (i : Int)] 3)).heap.size = w.heap.size + 2) := ⟨by simp⟩
  have HB2 := Aside0.mk hB2
  clear hB2 hx0 gi
  go_wp2
  generalize (w.alloc (.cells #[.pointer (some ⟨gs, 0, none⟩)] 26)).alloc (.cells #[.int .i64 (i : Int)] 3) = w2 at *
  clear hx2 gi2
  go_loopg [4, 5] k (fun kq v4 v5 wr => ∃ (x : Int) (xs : List (Fin N)), v5 = .int .i64 x ∧ Aside0 (Ix N x) ∧ Aside0 ((Kd.int .i64).R 3 wr (w.heap.size + 1) (fun _ => True) v4 (vals xs)) ∧ Aside0 (Below (w.heap.size + 1) w2 wr) ∧ Aside0 (pathN s kq x (vals xs) = some p) ∧ Aside0 (0 < xs.length))
  case atStart => exact ⟨_, _, rfl, HU, HR, ⟨Below.refl _ _⟩, HP, ⟨Nat.one_pos⟩⟩
  case round =>
    clear HU HR HP
    obtain ⟨x, xs, rfl, HX, HR, HB, HP, HXP⟩ := hrel
    obtain ⟨Ax, cx, ex⟩ := Kd.R_slice HR.out
    subst ex
    obtain ⟨f, hf⟩ : ∃ f, gk = f + 1 := by
      cases gk with
      | zero => have := HP.out; simp [pathN] at this
      | succ f => exact ⟨f, rfl⟩
    have HF := Aside0.mk hf
    have hxl : (vals xs).length ≤ 1000000 := Nat.le_trans (pathN_len s _ _ _ _ HP.out) HPL.out
    rcases HX.out with rfl | ⟨j, hj, rfl⟩
    · have n0 : ((-1 : Int) != -1) = false := rfl
      clear hf
      have hpe : p = vals xs := by
        have h_ := HP.out
        have e_ := HF.out
        subst e_
        rw [pathN, if_pos rfl] at h_
        exact (Option.some.inj h_).symm
      obtain ⟨g9, c9, e9, hb9, hl9, cs9, hcs9⟩ := Kd.R_form HR.out (by rw [vals_length]; exact HXP.out)
      injection e9 with eA en ec
      subst eA ec
      clear en
      go_wp2_with (go_at_call 53; refine (back_calls _ _ _ _).mono ?_; rintro e w' ⟨rfl, rfl⟩)
      have hBr : Below wr.heap.size wr (wr.alloc (.cells #[.slice (some ⟨g9, 0, none⟩) (vals xs).length cx] 22)) := below_alloc (Below.refl _ _) _
      have hWz : w.heap.size + 2 ≤ wr.heap.size := by
        have h1_ := HB.out.size
        have h2_ := HSB.out
        omega
      have HWZ := Aside0.mk hWz
      have HS3 : Aside0 (Sp 57 60 (og gs gn) w0 (wr.alloc (.cells #[.slice (some ⟨g9, 0, none⟩) (vals xs).length cx] 22)) gs gn N cap s) := ⟨(HS2.out.two (HB.out.block gs (by have h_ := HSZ.out; omega)) (HB.out.block gn (by have h_ := HSZ.out; omega)) (HS2.out.below.trans (HB.out.mono (by have h_ := HSZ.out; omega)))).move hBr⟩
      have hbk : (wr.alloc (.cells #[.slice (some ⟨g9, 0, none⟩) (vals xs).length cx] 22)).cell? ⟨wr.heap.size, 0, none⟩ = some (.slice (some ⟨g9, 0, none⟩) (vals xs).length cx) := (Boxed.new wr _ _).cell
      have hbb : Boxed (wr.alloc (.cells #[.slice (some ⟨g9, 0, none⟩) (vals xs).length cx] 22)) w.heap.size 26 (.pointer (some ⟨gs, 0, none⟩)) := Boxed.alloc ((HB.out.block w.heap.size (by omega)).trans HBX.out) _
      have hrd : ∀ j (h : j < xs.length), (wr.alloc (.cells #[.slice (some ⟨g9, 0, none⟩) (vals xs).length cx] 22)).cell? ⟨g9, j, none⟩ = some (.int .i64 (xs[j].val : Int)) := fun j h => by
        have h1_ := (Kd.R_celln 0 HR.out (j : Int) (by omega) (by rw [vals_length]; omega)).1
        rw [Int.toNat_natCast] at h1_
        refine (hBr.cell (p := ⟨g9, j, none⟩) hl9).trans (h1_.trans ?_)
        simp [rdOf, vals, h]
      have hz3 : (wr.alloc (.cells #[.slice (some ⟨g9, 0, none⟩) (vals xs).length cx] 22)).heap.size = wr.heap.size + 1 := by simp
      have HBB := Aside0.mk hbb
      have HZ3 := Aside0.mk hz3
      have HL9 := Aside0.mk hl9
      have HB9 := Aside0.mk hb9
      have HPE := Aside0.mk hpe
      refine (wpIn_wide (n := 5)).1 ?_
      refine wpIn_rangeFunc_ownG rfl (by omega) (gf := 60) (lb := #[.pointer (some ⟨wr.heap.size, 0, none⟩)]) rfl trivial (enters_of Try.func60 (by kernel_rfl) rfl)
        (back_stops Fence.wide (5 - 1) trivial rfl (by omega) wr.heap.size g9 cx N xs (by rw [vals_length] at hxl; omega) _ (by omega) (by omega) (hbk.trans (by rw [vals_length])) hrd) Kf.trans
        (fun W l o o' hl ho h1 h2 => ⟨by simp, World.putObj_heap_other (by omega), World.putObj_heap_other (by omega)⟩) (Below.refl _ _) (fun _ => rfl)
        (fun pre W => Sp 57 60 (og gs gn) w0 W gs gn N cap (pushes s (pre.map Prod.snd)) ∧ Ke gs gn (wr.alloc (.cells #[.slice (some ⟨g9, 0, none⟩) (vals xs).length cx] 22)) W)
        (fun _ _ _ => False)
        (fun t A B row hs hg hr => ⟨hs.1.grown hg (fun r e => by have h1_ := (hr r e).1; have h2_ := HS3.out.ke; omega), ⟨Nat.le_trans hs.2.size hg.size, fun k hk h1 h2 => (hg.block k (Nat.lt_of_lt_of_le hk hs.2.size) (fun e => by have h_ := (hr k e.symm).1; omega)).trans (hs.2.heap k hk h1 h2)⟩⟩)
        (fun _ _ _ _ _ hs _ _ => hs)
        ⟨HS3.out, Ke.refl _⟩
        (fun x => { tmps := #[Value.pointer (some ⟨gs, 0, none⟩), .int .i64 (i : Int), Value.pointer (some ⟨w.heap.size, 0, none⟩), undef, Value.slice (some ⟨g9, 0, none⟩) (vals xs).length cx, .int .i64 (-1), undef, .int .i64 (x.2.val : Int), undef, .int .i64 (i : Int), Value.slice (some ⟨w.heap.size + 1, 0, none⟩) 1 1, Value.pointer (some ⟨gs, 0, none⟩), Value.pointer (some ⟨gs, 0, none⟩), Value.pointer (some ⟨gs, 0, none⟩), Value.slice (some ⟨gn, 0, none⟩) N cap, .int .i64 (i : Int), Value.pointer (some ⟨gn, i * 9, none⟩), Value.pointer (some ⟨gn, i * 9, none⟩), .int .i64 u, .int .i64 (-1), Value.bool false, u21, u22, u23, u24, u25, u26, u27, u28, u29, u30, u31, u32, Value.slice (some ⟨g9, 0, none⟩) (vals xs).length cx, Value.func (.func 60) #[] #[.pointer (some ⟨wr.heap.size, 0, none⟩)], .int .i64 (x.1 : Int), .int .i64 (x.2.val : Int), undef, undef, undef, undef, undef, undef, undef, undef, undef, undef, undef, undef, undef, undef, undef, undef, undef, undef, undef, undef, undef, undef, undef, undef, undef, undef, undef, undef, undef, undef, undef, undef, undef, undef, undef, undef, undef, undef, undef, undef, undef, undef, undef, undef, undef], defers := [] }) ?assign ?body ?done ?stop
      case stop =>
        rintro D c pre W hD _ h _
        exact h.elim
      case assign =>
        intro l x W K hK
        gi_wp2
        exact hK
      case body =>
        rintro l pre x W ⟨hS, hK⟩ hlen
        have hG : Good N (pushes s (pre.map Prod.snd)) := Good.pushes _ HGD.out
        have hbx := (cell_of_heap (j := 0) (hK.heap w.heap.size (by have h_ := HZ3.out; have h2_ := HWZ.out; omega) (by have h_ := HSZ.out; omega) (by have h_ := HSZ.out; omega))).trans HBB.out.cell
        have HK := Aside0.mk hK
        have HS5 := Aside0.mk hS
        have HG5 := Aside0.mk hG
        clear hS hK hG
        have h1n : 1 ≤ 5 - 1 - 1 := by decide
        gi_wp2_with (refine ⟨trivial, ?_⟩; gi_at_call 46; refine (CallsIn.inRound l (callsIn_wide.2 (push_calls HS5.out hN x.2.isLt (HG5.out x.2.val x.2.isLt).2.1 (HG5.out x.2.val x.2.isLt).2.2))).mono ?_; rintro e w5 ⟨⟨v, rfl⟩, hS, hst, hsz⟩; have HS6 := Aside0.mk hS; have HK6 := Aside0.mk (Ke.of hst hsz); clear hS hst hsz)
        refine ⟨⟨HK6.out.size, fun k o hk ho _ => ?_⟩, ?_, ?_, HK.out.trans HK6.out⟩
        · rw [HK6.out.heap k (Array.getElem?_eq_some_iff.1 ho).1 (by have h_ := HS3.out.ke; omega) (by have h_ := HS3.out.ke; omega)]
          exact ho
        · have h1_ := HK.out.size
          have h2_ := HZ3.out
          have h3_ := HSZ.out
          have h4_ := HWZ.out
          have h5_ := HS3.out.ke
          have h6_ := HL9.out
          have h7_ := HB9.out
          exact ⟨HK6.out.size, HK6.out.heap _ (by omega) (by omega) (by omega), HK6.out.heap _ (by omega) (by omega) (by omega)⟩
        · rw [List.map_append, List.map_singleton, pushes_snoc]
          exact HS6.out
      case done =>
        rintro D ys W hD hys ⟨hS, hK⟩ hKD
        dsimp only
        have HS4 : Aside0 (Sp 57 60 (og gs gn) w0 W gs gn N cap (pushes s xs.reverse)) := ⟨hys ▸ hS⟩
        have HG4 : Aside0 (Good N (pushes s xs.reverse)) := ⟨Good.pushes _ HGD.out⟩
        have HSP4 : Aside0 (spin (i : Int) k (pushes s xs.reverse) = some s') := ⟨by
          have h_ := HSP.out
          rw [HPE.out, pushes_vals] at h_
          exact h_⟩
        have HK4 := Aside0.mk hK
        have HBW : Aside0 (W.cell? ⟨w.heap.size, 0, none⟩ = some (.pointer (some ⟨gs, 0, none⟩))) := ⟨(cell_of_heap (j := 0) (hK.heap w.heap.size (by omega) (by have h_ := HSZ.out; omega) (by have h_ := HSZ.out; omega))).trans HBB.out.cell⟩
        have HKW : Aside0 (Ke gs gn w W) := ⟨⟨by have h_ := hK.size; omega, fun k_ hk_ h1_ h2_ => (hK.heap k_ (by omega) h1_ h2_).trans ((hBr.block k_ (by omega)).trans ((HB.out.block k_ (by omega)).trans (HB2.out.block k_ hk_)))⟩⟩
        have HKD := Aside0.mk hKD
        have HDW : Aside0 (w.heap.size < D ∧ D < W.heap.size) := ⟨by omega, (Array.getElem?_eq_some_iff.1 hKD).1⟩
        clear hKD hK hS hys hrd hbk hbb hBr hz3 HS3 HR HX HP HB HBX HBB hD hpe hcs9 HPE HXP HZ3 HL9 hxl
        go_wp2
        go_loopg [8] k (fun kq v8 wr => ∃ (s1 : Fo), Aside0 (Sp 57 60 (og gs gn) w0 wr gs gn N cap s1) ∧ Aside0 (Good N s1) ∧ Aside0 (Ke gs gn W wr) ∧ Aside0 (spin (i : Int) kq s1 = some s'))
        case atStart => exact ⟨_, HS4, HG4, ⟨Ke.refl _⟩, HSP4⟩
        case round =>
          clear HS4 HG4 HSP4
          obtain ⟨s1, HS1, HG1, HK1, HP1⟩ := hrel
          obtain ⟨f2, hf2⟩ : ∃ f2, gk = f2 + 1 := by
            cases gk with
            | zero => have := HP1.out; simp [spin] at this
            | succ f => exact ⟨f, rfl⟩
          have HF2 := Aside0.mk hf2
          have hP1 := HP1.out
          rw [hf2, spin] at hP1
          have hbx := (cell_of_heap (j := 0) (HK1.out.heap w.heap.size (by have h_ := HDW.out; omega) (by have h_ := HSZ.out; omega) (by have h_ := HSZ.out; omega))).trans HBW.out
          have hx1 := HS1.out.sl
          have gi1 := HS1.out.g0 hi
          obtain ⟨u1, hu1⟩ : ∃ u1, (s1 (i : Int)).up = u1 := ⟨_, rfl⟩
          have hIU := (HG1.out i hi).1
          rw [hu1] at hP1 hIU gi1
          have HU1 := Aside0.mk hu1
          clear hu1 hf2
          rcases hIU with rfl | ⟨j, hj, rfl⟩
          · rw [if_pos rfl] at hP1
            obtain rfl := Option.some.inj hP1
            have n0 : ((-1 : Int) != -1) = false := rfl
            clear HP1 hP1 HU1
            go_wp2
            have hKF : wr.heap[D]? = some (.deferred (some [])) := (HK1.out.heap D HDW.out.2 (by have h1_ := HSZ.out; have h2_ := HDW.out; omega) (by have h1_ := HSZ.out; have h2_ := HDW.out; omega)).trans HKD.out
            refine ⟨by simp, .inl ⟨_, _, rfl, run_takeDeferred hKF, ?_⟩⟩
            have hne := HDW.out
            have hzz := HSZ.out
            refine ⟨_, results_none rfl _ _ _, ⟨_, rfl⟩, HS1.out.grown (grownBy_putObj' wr D (.deferred none)) (fun r e => by cases e; omega), ⟨Nat.le_trans HKW.out.size (Nat.le_trans HK1.out.size (by simp)), fun k_ hk_ h1_ h2_ => ?_⟩, HG1.out⟩
            rw [World.putObj_heap_other (by omega)]
            exact (HKW.out.trans HK1.out).heap k_ hk_ h1_ h2_
          · have n1 : ((j : Int) != -1) = true := bne_iff_ne.mpr (by omega)
            have n2 : ¬ ((j : Int) = -1) := by omega
            have j0 : (0 : Int) ≤ (j : Int) := Int.natCast_nonneg j
            have j1 : (j : Int) < (N : Int) := by omega
            rw [if_neg n2] at hP1
            have gj1 := HS1.out.g0 hj
            obtain ⟨q1, hq1⟩ : ∃ q1, (s1 (j : Int)).up = q1 := ⟨_, rfl⟩
            have hIQ := (HG1.out j hj).1
            rw [hq1] at hP1 hIQ gj1
            have HQ1 := Aside0.mk hq1
            clear hq1 HP1
            rcases hIQ with rfl | ⟨m, hm, rfl⟩
            · rw [if_pos rfl] at hP1
              have HP2 := Aside0.mk hP1
              have m0 : ((-1 : Int) != -1) = false := rfl
              clear hP1
              go_wp2_with (go_at_call 55; (with_reducible refine (rotate_calls HS1.out hN HG1.out hi hj HU1.out).mono ?_); rintro e w5 ⟨⟨v, rfl⟩, hS, hst, hsz⟩; have HS5 := Aside0.mk hS; have HG5 : Aside0 (Good N (rotate s1 (i : Int))) := ⟨HG1.out.rotate hi hj HU1.out⟩; have HK5 : Aside0 (Ke gs gn W w5) := ⟨HK1.out.trans (Ke.of hst hsz)⟩; have hb5 := (cell_of_heap (j := 0) (HK5.out.heap w.heap.size (by have h_ := HDW.out; omega) (by have h_ := HSZ.out; omega) (by have h_ := HSZ.out; omega))).trans HBW.out; clear hS hst hsz)
              go_roundg f2
              case measure => have h_ := HF2.out; omega
              case rel => exact ⟨_, HS5, HG5, HK5, HP2⟩
            · have m1 : ((m : Int) != -1) = true := bne_iff_ne.mpr (by omega)
              have m2 : ¬ ((m : Int) = -1) := by omega
              rw [if_neg m2] at hP1
              obtain ⟨at_, hat_⟩ : ∃ at_, side s1 (i : Int) = at_ := ⟨_, rfl⟩
              obtain ⟨tp, htp⟩ : ∃ tp, side s1 (j : Int) = tp := ⟨_, rfl⟩
              rw [hat_, htp] at hP1
              have HAT := Aside0.mk hat_
              have HTP := Aside0.mk htp
              clear hat_ htp
              by_cases c : at_ = tp
              · rw [if_pos c] at hP1
                have hc : (at_ == tp) = true := by simp [c]
                have HG2 := HG1.out.rotate hj hm HQ1.out
                have hI2 := (HG2 i hi).1
                obtain ⟨z, hz⟩ : ∃ z, (rotate s1 (j : Int) (i : Int)).up = z := ⟨_, rfl⟩
                rw [hz] at hP1 hI2
                rcases hI2 with rfl | ⟨y, hy, rfl⟩
                · rw [if_pos rfl] at hP1
                  cases hP1
                · have y2 : ¬ ((y : Int) = -1) := by omega
                  rw [if_neg y2] at hP1
                  have HP2 := Aside0.mk hP1
                  have HZ := Aside0.mk hz
                  clear hP1 HG2 hz
                  go_wp2
                  go_quiet (first | (go_at_call 54; (with_reducible refine (side_quiet (HS1.out.drewN _) hN hi hj HU1.out).mono ?_); rw [HAT.out]; rintro e w' ⟨rfl, ⟨nd, rfl⟩⟩; (try first | exact ⟨rfl, _, World.drewN_drewN _ _ _⟩ | exact ⟨rfl, _, Eq.trans (World.drewN_drewN _ _ _) (congrArg (World.drewN _) (Nat.add_assoc _ _ _))⟩)) | (go_at_call 54; (with_reducible refine (side_quiet (HS1.out.drewN _) hN hj hm HQ1.out).mono ?_); rw [HTP.out]; rintro e w' ⟨rfl, ⟨nd, rfl⟩⟩; (try first | exact ⟨rfl, _, World.drewN_drewN _ _ _⟩ | exact ⟨rfl, _, Eq.trans (World.drewN_drewN _ _ _) (congrArg (World.drewN _) (Nat.add_assoc _ _ _))⟩)))
                  have HS7 := Aside0.mk (HS1.out.drewN nq)
                  have HK7 : Aside0 (Ke gs gn W (wr.drewN nq)) := ⟨HK1.out.trans (Ke.of (stay_drewN (Stay.below (Below.refl _ _)) nq) (by simp))⟩
                  have hb7 : (wr.drewN nq).cell? ⟨w.heap.size, 0, none⟩ = some (.pointer (some ⟨gs, 0, none⟩)) := (cell_of_heap (j := 0) (HK7.out.heap w.heap.size (by have h_ := HDW.out; omega) (by have h_ := HSZ.out; omega) (by have h_ := HSZ.out; omega))).trans HBW.out
                  clear hbx hx1 gi1 gj1
                  generalize wr.drewN nq = wq at *
                  go_wp2_with (first
                    | (go_at_call 55; (with_reducible refine (rotate_calls HS7.out hN HG1.out hj hm HQ1.out).mono ?_); rintro e w5 ⟨⟨v, rfl⟩, hS, hst, hsz⟩; have HS5 := Aside0.mk hS; have HG5 : Aside0 (Good N (rotate s1 (j : Int))) := ⟨HG1.out.rotate hj hm HQ1.out⟩; have HK5 : Aside0 (Ke gs gn W w5) := ⟨HK7.out.trans (Ke.of hst hsz)⟩; have hb5 := (cell_of_heap (j := 0) (HK5.out.heap w.heap.size (by have h_ := HDW.out; omega) (by have h_ := HSZ.out; omega) (by have h_ := HSZ.out; omega))).trans HBW.out; clear hS hst hsz)
                    | (go_at_call 55; (with_reducible refine (rotate_calls HS5.out hN HG5.out hi hy HZ.out).mono ?_); rintro e w6 ⟨⟨v, rfl⟩, hS, hst, hsz⟩; have HS6 := Aside0.mk hS; have HG6 : Aside0 (Good N (rotate (rotate s1 (j : Int)) (i : Int))) := ⟨HG5.out.rotate hi hy HZ.out⟩; have HK6 : Aside0 (Ke gs gn W w6) := ⟨HK5.out.trans (Ke.of hst hsz)⟩; have hb6 := (cell_of_heap (j := 0) (HK6.out.heap w.heap.size (by have h_ := HDW.out; omega) (by have h_ := HSZ.out; omega) (by have h_ := HSZ.out; omega))).trans HBW.out; clear hS hst hsz))
                  go_roundg f2
                  case measure => have h_ := HF2.out; omega
                  case rel => exact ⟨_, HS6, HG6, HK6, HP2⟩
              · rw [if_neg c] at hP1
                have hc : (at_ == tp) = false := beq_eq_false_iff_ne.mpr c
                have HG2 := HG1.out.rotate hi hj HU1.out
                have hI2 := (HG2 i hi).1
                obtain ⟨z, hz⟩ : ∃ z, (rotate s1 (i : Int) (i : Int)).up = z := ⟨_, rfl⟩
                rw [hz] at hP1 hI2
                rcases hI2 with rfl | ⟨y, hy, rfl⟩
                · rw [if_pos rfl] at hP1
                  cases hP1
                · have y2 : ¬ ((y : Int) = -1) := by omega
                  rw [if_neg y2] at hP1
                  have HP2 := Aside0.mk hP1
                  have HZ := Aside0.mk hz
                  clear hP1 HG2 hz
                  go_wp2
                  go_quiet (first | (go_at_call 54; (with_reducible refine (side_quiet (HS1.out.drewN _) hN hi hj HU1.out).mono ?_); rw [HAT.out]; rintro e w' ⟨rfl, ⟨nd, rfl⟩⟩; (try first | exact ⟨rfl, _, World.drewN_drewN _ _ _⟩ | exact ⟨rfl, _, Eq.trans (World.drewN_drewN _ _ _) (congrArg (World.drewN _) (Nat.add_assoc _ _ _))⟩)) | (go_at_call 54; (with_reducible refine (side_quiet (HS1.out.drewN _) hN hj hm HQ1.out).mono ?_); rw [HTP.out]; rintro e w' ⟨rfl, ⟨nd, rfl⟩⟩; (try first | exact ⟨rfl, _, World.drewN_drewN _ _ _⟩ | exact ⟨rfl, _, Eq.trans (World.drewN_drewN _ _ _) (congrArg (World.drewN _) (Nat.add_assoc _ _ _))⟩)))
                  have HS7 := Aside0.mk (HS1.out.drewN nq)
                  have HK7 : Aside0 (Ke gs gn W (wr.drewN nq)) := ⟨HK1.out.trans (Ke.of (stay_drewN (Stay.below (Below.refl _ _)) nq) (by simp))⟩
                  have hb7 : (wr.drewN nq).cell? ⟨w.heap.size, 0, none⟩ = some (.pointer (some ⟨gs, 0, none⟩)) := (cell_of_heap (j := 0) (HK7.out.heap w.heap.size (by have h_ := HDW.out; omega) (by have h_ := HSZ.out; omega) (by have h_ := HSZ.out; omega))).trans HBW.out
                  clear hbx hx1 gi1 gj1
                  generalize wr.drewN nq = wq at *
                  go_wp2_with (first
                    | (go_at_call 55; (with_reducible refine (rotate_calls HS7.out hN HG1.out hi hj HU1.out).mono ?_); rintro e w5 ⟨⟨v, rfl⟩, hS, hst, hsz⟩; have HS5 := Aside0.mk hS; have HG5 : Aside0 (Good N (rotate s1 (i : Int))) := ⟨HG1.out.rotate hi hj HU1.out⟩; have HK5 : Aside0 (Ke gs gn W w5) := ⟨HK7.out.trans (Ke.of hst hsz)⟩; have hb5 := (cell_of_heap (j := 0) (HK5.out.heap w.heap.size (by have h_ := HDW.out; omega) (by have h_ := HSZ.out; omega) (by have h_ := HSZ.out; omega))).trans HBW.out; clear hS hst hsz)
                    | (go_at_call 55; (with_reducible refine (rotate_calls HS5.out hN HG5.out hi hy HZ.out).mono ?_); rintro e w6 ⟨⟨v, rfl⟩, hS, hst, hsz⟩; have HS6 := Aside0.mk hS; have HG6 : Aside0 (Good N (rotate (rotate s1 (i : Int)) (i : Int))) := ⟨HG5.out.rotate hi hy HZ.out⟩; have HK6 : Aside0 (Ke gs gn W w6) := ⟨HK5.out.trans (Ke.of hst hsz)⟩; have hb6 := (cell_of_heap (j := 0) (HK6.out.heap w.heap.size (by have h_ := HDW.out; omega) (by have h_ := HSZ.out; omega) (by have h_ := HSZ.out; omega))).trans HBW.out; clear hS hst hsz))
                  go_roundg f2
                  case measure => have h_ := HF2.out; omega
                  case rel => exact ⟨_, HS6, HG6, HK6, HP2⟩
    · have n1 : ((j : Int) != -1) = true := bne_iff_ne.mpr (by omega)
      have hwz : w.heap.size + 2 ≤ wr.heap.size := by
        have h1_ := HB.out.size
        have h2_ := HSB.out
        omega
      have j0 : (0 : Int) ≤ (j : Int) := Int.natCast_nonneg j
      have j1 : (j : Int) < (N : Int) := by omega
      have HXL := Aside0.mk hxl
      have HWZ := Aside0.mk hwz
      clear hf hwz hxl
      go_wp2_with (first
        | ((with_reducible refine gate_builtin (b := .append) (xs := #[.tmp 29, .tmp 31]) rfl ?_); at_builtin; refine Kd.R_append (Kd.int .i64) (w0 := w2) (w.heap.size + 1) rfl (.tmp 29) (.tmp 31) 22 3 (.int .i64 0) 8 rfl Try.underlying22 info_int rfl (by decide) (by omega) (.slice Ax (vals xs).length cx) (vals xs) (j : Int) [.int .i64 (j : Int)] (fun _ => True) (fun _ => False) rfl (by first | (go_simp; done) | (go_simp; rfl)) ?aP (fun _ hk => hk.elim) ?aF ?aO ?aB ?aS ?aL ?_; (case aP => exact rfl); (case aF => exact (fun _ _ => trivial)); (case aO => exact HR.out); (case aB => exact HB.out); (case aS => have h_ := HWZ.out; omega); (case aL => have h1_ := HXL.out; omega); intro u1 w5 ho hb5 hg hat; have HR5 := Aside0.mk ho; have HB5 := Aside0.mk hb5; have hb5x := hb5.block w.heap.size (by omega); have hbx5 := (cell_of_heap (j := 0) hb5x).trans HBX.out.cell; have hb5s := hb5.block gs (by have h_ := HSZ.out; omega); have hx5 := (cell_of_heap (j := 0) hb5s).trans HS2.out.sl; have hb5n := hb5.block gn (by have h_ := HSZ.out; omega); have gj5 := (cell_of_heap (j := j * 9) hb5n).trans (HS2.out.g0 hj); clear ho hb5 hg hat hb5x hb5s hb5n))
      go_roundg f
      case measure => have h_ := HF.out; omega
      case rel =>
        refine ⟨_, xs ++ [(⟨j, hj⟩ : Fin N)], rfl, ⟨(HGD.out j hj).1⟩, ⟨?_⟩, HB5, ⟨?_⟩, ⟨by simp⟩⟩
        · rw [vals_snoc]
          exact HR5.out
        · have h_ := HP.out
          have e_ := HF.out
          subst e_
          rw [pathN, if_neg (by omega)] at h_
          rw [vals_snoc]
          exact h_
end Go.Proofs.YtcnmbgijehnchaaW.Splay
