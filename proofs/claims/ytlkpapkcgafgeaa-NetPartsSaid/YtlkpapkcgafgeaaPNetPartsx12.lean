/- For the law NetParts, for every input: printed by a program (wip/myprint), contracts by hand where it says MANUAL. -/
-- slim
import Derived.Test.YtlkpapkcgafgeaaPNetPartsx0
import Derived.Test.YtlkpapkcgafgeaaPNetPartsx10
import Derived.Test.YtlkpapkcgafgeaaPNetPartsx11
namespace Go.Proofs.Ytlkpapkcgafgeaa.PNetParts
open Go.RowKit Go.Proofs.YtlkpapkcgafgeaaW.PrintWords Go.Proofs.YtlkpapkcgafgeaaW.PrintLast Go.Proofs.YtlkpapkcgafgeaaW.PrintMore
attribute [local go_sem] max2_int min2_int max_two min_two max_three min_three max_four min_four
set_option linter.unusedVariables false
set_option linter.unusedSimpArgs false
/-! ### net_arcs: function 25 -/
-- MANUAL: this contract was written by hand.
/-- The numbers, from i on, of the arcs of which p tells v. -/
def arcsOf (p : S34 → Int) (v : Int) : List S34 → Nat → List Int
 | [], _ => []
 | a :: t, i => if p a = v then (i : Int) :: arcsOf p v t (i + 1) else arcsOf p v t (i + 1)
set_option maxHeartbeats 8000000 in
set_option maxRecDepth 100000 in
theorem arcsOut.calls (a0_0 a0_1 a0_2 : Int) (A0_3 : Option Addr) (c0_3 : Nat) (l0_3 : List S34) (a1 : Int) (w : World) (hr0_3 : Kd.C k34 w A0_3 l0_3.length l0_3) (hc0_3 : l0_3.length ≤ c0_3) (hl : l0_3.length < 17592186044416) :
  Calls Try.prog 25 #[.agg #[.int .i64 a0_0, .int .i64 a0_1, .int .i64 a0_2, .slice A0_3 l0_3.length c0_3], .int .i64 a1, .func (.func 26) #[] #[]] w fun e w' => ∃ v0_ : Value, e = .returned (v0_) ∧ Kd.R (Kd.int .i64) 3 w' w.heap.size (fun _ => True) v0_ (arcsOf (·.f0) a1 l0_3 0) ∧ Below w.heap.size w w' := by
 have hu26 := Try.underlying26
 have hu28 := Try.underlying34
 have HR := Aside0.mk hr0_3
 clear hr0_3
 obtain ⟨r, hr⟩ : ∃ r, arcsOf (·.f0) a1 l0_3 0 = r := ⟨_, rfl⟩
 rw [hr]
 have H := Aside0.mk hr
 clear hr
 have HB0 := Aside0.mk (below_alloc (Below.refl w.heap.size w) (.cells #[.int .i64 a0_0, .int .i64 a0_1, .int .i64 a0_2, .slice A0_3 l0_3.length c0_3] 26))
 go_enter Try.func25, Try.ntmps25
 go_wp2
 go_loopg [7, 13] (l0_3.length + 1) (fun kq v7 v13 wr => ∃ (k : Nat) (out : List Int), v13 = .int .i64 k ∧ Aside0 (k + kq = l0_3.length + 1 ∧ 0 < kq) ∧ Aside0 (out ++ arcsOf (·.f0) a1 (l0_3.drop k) k = r) ∧ Aside0 (out.length ≤ k) ∧ Aside0 (Kd.R (Kd.int .i64) 3 wr w.heap.size (fun _ => True) v7 out) ∧ Aside0 (Below w.heap.size w wr))
 case atStart => exact ⟨0, [], rfl, ⟨by omega⟩, ⟨by rw [List.drop_zero]; exact H.out⟩, ⟨Nat.le_refl _⟩, ⟨Kd.R_nil _ _ _ _ _⟩, HB0⟩
 case round =>
  clear HB0
  obtain ⟨k, out, rfl, HK, HA, HN, HO, HB⟩ := hrel
  by_cases hlt : k < l0_3.length
  ·obtain ⟨ad, ead, hx0, hx1, hx2⟩ := at_T34 HR.out (k : Int) (by omega) (by omega)
   cases ead
   have hd : l0_3.drop k = rd_T34 l0_3 (k : Int) :: l0_3.drop (k + 1) := by
    rw [List.drop_eq_getElem_cons hlt]; simp [rd_T34, hlt]
   (have hA := HA.out);(rw [hd, arcsOf] at hA);(clear hd HA);(generalize rd_T34 l0_3 (k : Int) = x at *);(replace hx0 := (HB.out.cell (World.block_lt_of_cell? w _ hx0)).trans hx0);(replace hx1 := (HB.out.cell (World.block_lt_of_cell? w _ hx1)).trans hx1);(replace hx2 := (HB.out.cell (World.block_lt_of_cell? w _ hx2)).trans hx2);(rw [Int.toNat_natCast] at hx0 hx1 hx2)
   by_cases hv : x.f0 = a1
   ·(rw [if_pos hv] at hA);(have hv1 : (x.f0 == a1) = true := beq_iff_eq.mpr hv);(have HA := Aside0.mk hA);(clear hA hv)
    go_wp2_with (first
     | (go_at_call 26; refine (net_Out_1.calls x.f0 x.f1 x.f2 x.f0 _ rfl).mono ?_; rintro e w' ⟨rfl, hb⟩; have HB1 := Aside0.mk (below_step (by repeat (first | (with_reducible first | exact HB.out | apply below_alloc | apply pw_below_drewN | apply below_drew1) | exact HB.out)) hb); have HO1 := Aside0.mk (Kd.R_below (by (with_reducible repeat first | apply Kd.R_alloc | apply Kd.R_drewN | apply Kd.R_drew); exact HO.out) hb); clear hb)
     | ((with_reducible refine gate_builtin (b := .append) (xs := #[.tmp 23, .tmp 25]) rfl ?_); at_builtin; refine Kd.R_append (Kd.int .i64) (w0 := w) w.heap.size rfl (.tmp 23) (.tmp 25) 31 3 (.int .i64 0) 8 rfl Try.underlying31 info3 rfl (by decide) (by omega) u7 out (k : Int) [.int .i64 k] (fun _ => True) (fun _ => False) rfl (by first | (go_simp; done) | (go_simp; rfl)) ?aP (fun _ hk => hk.elim) ?aF ?aO ?aB ?aS ?aL ?_; (case aP => exact rfl); (case aB => exact HB1.out); (case aF => exact (fun _ _ => trivial)); (case aO => exact HO1.out); (case aS => exact (below_size HB1.out)); (case aL => have := HN.out; omega); intro v26 w26 ho hb hg hat; have HO2 := Aside0.mk ho; have HB2 := Aside0.mk hb; clear ho hb hg hat))
    obtain ⟨hk1, hk2⟩ := HK.out
    go_roundg (gk - 1)
    case measure => omega
    case rel => exact ⟨k + 1, out ++ [(k : Int)], by first | rfl | go_num, ⟨by omega⟩, ⟨by rw [List.append_assoc]; exact HA.out⟩, ⟨by have := HN.out; simp; omega⟩, HO2, HB2⟩
   ·(rw [if_neg hv] at hA);(have hv1 : (x.f0 == a1) = false := beq_eq_false_iff_ne.mpr hv);(have HA := Aside0.mk hA);(clear hA hv)
    go_wp2_with (go_at_call 26; refine (net_Out_1.calls x.f0 x.f1 x.f2 x.f0 _ rfl).mono ?_; rintro e w' ⟨rfl, hb⟩; have HB1 := Aside0.mk (below_step (by repeat (first | (with_reducible first | exact HB.out | apply below_alloc | apply pw_below_drewN | apply below_drew1) | exact HB.out)) hb); have HO1 := Aside0.mk (Kd.R_below (by (with_reducible repeat first | apply Kd.R_alloc | apply Kd.R_drewN | apply Kd.R_drew); exact HO.out) hb); clear hb)
    obtain ⟨hk1, hk2⟩ := HK.out
    go_roundg (gk - 1)
    case measure => omega
    case rel => exact ⟨k + 1, out, by first | rfl | go_num, ⟨by omega⟩, HA, ⟨by have := HN.out; omega⟩, HO1, HB1⟩
  ·have hkl : k = l0_3.length := by have := HK.out; omega
   (have hA := HA.out);(rw [List.drop_of_length_le (by omega), arcsOf, List.append_nil] at hA);(subst hA);(clear hkl)
   go_wp2
   go_ret
   exact ⟨_, rfl, HO.out, HB.out⟩
set_option maxHeartbeats 8000000 in
set_option maxRecDepth 100000 in
theorem arcsIn.calls (a0_0 a0_1 a0_2 : Int) (A0_3 : Option Addr) (c0_3 : Nat) (l0_3 : List S34) (a1 : Int) (w : World) (hr0_3 : Kd.C k34 w A0_3 l0_3.length l0_3) (hc0_3 : l0_3.length ≤ c0_3) (hl : l0_3.length < 17592186044416) :
  Calls Try.prog 25 #[.agg #[.int .i64 a0_0, .int .i64 a0_1, .int .i64 a0_2, .slice A0_3 l0_3.length c0_3], .int .i64 a1, .func (.func 27) #[] #[]] w fun e w' => ∃ v0_ : Value, e = .returned (v0_) ∧ Kd.R (Kd.int .i64) 3 w' w.heap.size (fun _ => True) v0_ (arcsOf (·.f1) a1 l0_3 0) ∧ Below w.heap.size w w' := by
 have hu26 := Try.underlying26
 have hu28 := Try.underlying34
 have HR := Aside0.mk hr0_3
 clear hr0_3
 obtain ⟨r, hr⟩ : ∃ r, arcsOf (·.f1) a1 l0_3 0 = r := ⟨_, rfl⟩
 rw [hr]
 have H := Aside0.mk hr
 clear hr
 have HB0 := Aside0.mk (below_alloc (Below.refl w.heap.size w) (.cells #[.int .i64 a0_0, .int .i64 a0_1, .int .i64 a0_2, .slice A0_3 l0_3.length c0_3] 26))
 go_enter Try.func25, Try.ntmps25
 go_wp2
 go_loopg [7, 13] (l0_3.length + 1) (fun kq v7 v13 wr => ∃ (k : Nat) (out : List Int), v13 = .int .i64 k ∧ Aside0 (k + kq = l0_3.length + 1 ∧ 0 < kq) ∧ Aside0 (out ++ arcsOf (·.f1) a1 (l0_3.drop k) k = r) ∧ Aside0 (out.length ≤ k) ∧ Aside0 (Kd.R (Kd.int .i64) 3 wr w.heap.size (fun _ => True) v7 out) ∧ Aside0 (Below w.heap.size w wr))
 case atStart => exact ⟨0, [], rfl, ⟨by omega⟩, ⟨by rw [List.drop_zero]; exact H.out⟩, ⟨Nat.le_refl _⟩, ⟨Kd.R_nil _ _ _ _ _⟩, HB0⟩
 case round =>
  clear HB0
  obtain ⟨k, out, rfl, HK, HA, HN, HO, HB⟩ := hrel
  by_cases hlt : k < l0_3.length
  ·obtain ⟨ad, ead, hx0, hx1, hx2⟩ := at_T34 HR.out (k : Int) (by omega) (by omega)
   cases ead
   have hd : l0_3.drop k = rd_T34 l0_3 (k : Int) :: l0_3.drop (k + 1) := by
    rw [List.drop_eq_getElem_cons hlt]; simp [rd_T34, hlt]
   (have hA := HA.out);(rw [hd, arcsOf] at hA);(clear hd HA);(generalize rd_T34 l0_3 (k : Int) = x at *);(replace hx0 := (HB.out.cell (World.block_lt_of_cell? w _ hx0)).trans hx0);(replace hx1 := (HB.out.cell (World.block_lt_of_cell? w _ hx1)).trans hx1);(replace hx2 := (HB.out.cell (World.block_lt_of_cell? w _ hx2)).trans hx2);(rw [Int.toNat_natCast] at hx0 hx1 hx2)
   by_cases hv : x.f1 = a1
   ·(rw [if_pos hv] at hA);(have hv1 : (x.f1 == a1) = true := beq_iff_eq.mpr hv);(have HA := Aside0.mk hA);(clear hA hv)
    go_wp2_with (first
     | (go_at_call 27; refine (net_In_1.calls x.f0 x.f1 x.f2 x.f1 _ rfl).mono ?_; rintro e w' ⟨rfl, hb⟩; have HB1 := Aside0.mk (below_step (by repeat (first | (with_reducible first | exact HB.out | apply below_alloc | apply pw_below_drewN | apply below_drew1) | exact HB.out)) hb); have HO1 := Aside0.mk (Kd.R_below (by (with_reducible repeat first | apply Kd.R_alloc | apply Kd.R_drewN | apply Kd.R_drew); exact HO.out) hb); clear hb)
     | ((with_reducible refine gate_builtin (b := .append) (xs := #[.tmp 23, .tmp 25]) rfl ?_); at_builtin; refine Kd.R_append (Kd.int .i64) (w0 := w) w.heap.size rfl (.tmp 23) (.tmp 25) 31 3 (.int .i64 0) 8 rfl Try.underlying31 info3 rfl (by decide) (by omega) u7 out (k : Int) [.int .i64 k] (fun _ => True) (fun _ => False) rfl (by first | (go_simp; done) | (go_simp; rfl)) ?aP (fun _ hk => hk.elim) ?aF ?aO ?aB ?aS ?aL ?_; (case aP => exact rfl); (case aB => exact HB1.out); (case aF => exact (fun _ _ => trivial)); (case aO => exact HO1.out); (case aS => exact (below_size HB1.out)); (case aL => have := HN.out; omega); intro v26 w26 ho hb hg hat; have HO2 := Aside0.mk ho; have HB2 := Aside0.mk hb; clear ho hb hg hat))
    obtain ⟨hk1, hk2⟩ := HK.out
    go_roundg (gk - 1)
    case measure => omega
    case rel => exact ⟨k + 1, out ++ [(k : Int)], by first | rfl | go_num, ⟨by omega⟩, ⟨by rw [List.append_assoc]; exact HA.out⟩, ⟨by have := HN.out; simp; omega⟩, HO2, HB2⟩
   ·(rw [if_neg hv] at hA);(have hv1 : (x.f1 == a1) = false := beq_eq_false_iff_ne.mpr hv);(have HA := Aside0.mk hA);(clear hA hv)
    go_wp2_with (go_at_call 27; refine (net_In_1.calls x.f0 x.f1 x.f2 x.f1 _ rfl).mono ?_; rintro e w' ⟨rfl, hb⟩; have HB1 := Aside0.mk (below_step (by repeat (first | (with_reducible first | exact HB.out | apply below_alloc | apply pw_below_drewN | apply below_drew1) | exact HB.out)) hb); have HO1 := Aside0.mk (Kd.R_below (by (with_reducible repeat first | apply Kd.R_alloc | apply Kd.R_drewN | apply Kd.R_drew); exact HO.out) hb); clear hb)
    obtain ⟨hk1, hk2⟩ := HK.out
    go_roundg (gk - 1)
    case measure => omega
    case rel => exact ⟨k + 1, out, by first | rfl | go_num, ⟨by omega⟩, HA, ⟨by have := HN.out; omega⟩, HO1, HB1⟩
  ·have hkl : k = l0_3.length := by have := HK.out; omega
   (have hA := HA.out);(rw [List.drop_of_length_le (by omega), arcsOf, List.append_nil] at hA);(subst hA);(clear hkl)
   go_wp2
   go_ret
   exact ⟨_, rfl, HO.out, HB.out⟩
end Go.Proofs.Ytlkpapkcgafgeaa.PNetParts
