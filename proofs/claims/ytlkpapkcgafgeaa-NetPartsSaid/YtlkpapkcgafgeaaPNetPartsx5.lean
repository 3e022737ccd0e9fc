/- For the law NetParts, for every input: printed by a program (wip/myprint), contracts by hand where it says MANUAL. -/
-- slim
import Derived.Test.YtlkpapkcgafgeaaPNetPartsx0
import Derived.Test.YtlkpapkcgafgeaaPNetPartsx4
namespace Go.Proofs.Ytlkpapkcgafgeaa.PNetParts
open Go.RowKit Go.Proofs.YtlkpapkcgafgeaaW.PrintWords Go.Proofs.YtlkpapkcgafgeaaW.PrintLast Go.Proofs.YtlkpapkcgafgeaaW.PrintMore
attribute [local go_sem] max2_int min2_int max_two min_two max_three min_three max_four min_four
set_option linter.unusedVariables false
set_option linter.unusedSimpArgs false
/-! ### api_Arc_24: function 24 -/
-- MANUAL: this contract was written by hand.
def eqArcs : List S34 → List S34 → Bool
 | [], [] => true
 | a :: s, b :: t => (a.f0 == b.f0 && (a.f1 == b.f1 && a.f2 == b.f2)) && eqArcs s t
 | _, _ => false
theorem eqArcs_len : ∀ {s t : List S34}, ¬ s.length = t.length → eqArcs s t = false
 | [], [], h => absurd rfl h
 | _ :: s, _ :: t, h => by
  have := eqArcs_len (s := s) (t := t) (by simpa using h)
  simp [eqArcs, this]
 | [], _ :: _, _ => rfl
 | _ :: _, [], _ => rfl
set_option maxHeartbeats 8000000 in
set_option maxRecDepth 100000 in
theorem eqFunc.calls (A0 : Option Addr) (c0 : Nat) (l0 : List S34) (A1 : Option Addr) (c1 : Nat) (l1 : List S34) (w : World) (hr0 : Kd.C k34 w A0 l0.length l0) (hc0 : l0.length ≤ c0) (hr1 : Kd.C k34 w A1 l1.length l1) (hc1 : l1.length ≤ c1) :
  Calls Try.prog 24 #[.slice A0 l0.length c0, .slice A1 l1.length c1, .func (.func 23) #[] #[]] w fun e w' => e = .returned (.bool (eqArcs l0 l1)) ∧ Below w.heap.size w w' := by
 have hu28 := Try.underlying34
 have HR0 := Aside0.mk hr0
 have HR1 := Aside0.mk hr1
 have HB := Aside0.mk (Below.refl w.heap.size w)
 have hm := Kd.C_max hr0
 clear hr0 hr1
 obtain ⟨b, hb⟩ : ∃ b, eqArcs l0 l1 = b := ⟨_, rfl⟩
 rw [hb]
 have H := Aside0.mk hb
 clear hb
 by_cases hl : l0.length = l1.length
 ·have hl1 : (l0.length == l1.length) = true := by simpa using hl
  have hl2 : ((l0.length : Int) == (l1.length : Int)) = true := by simp; omega
  have hl3 : ((l0.length : Int) != (l1.length : Int)) = false := by simp; omega
  have HL := Aside0.mk hl
  clear hl
  go_enter Try.func24, Try.ntmps24
  go_wp2
  go_loopg [17] (l0.length + 1) (fun kq v17 wr => ∃ (k : Nat), v17 = .int .i64 k ∧ Aside0 (k + kq = l0.length + 1 ∧ 0 < kq) ∧ Aside0 (eqArcs (l0.drop k) (l1.drop k) = b) ∧ Aside0 (Below w.heap.size w wr))
  case atStart => exact ⟨0, rfl, ⟨by omega⟩, ⟨by rw [List.drop_zero, List.drop_zero]; exact H.out⟩, HB⟩
  case round =>
   (clear HB);(obtain ⟨k, rfl, HK, HA, HB⟩ := hrel)
   by_cases hlt : k < l0.length
   ·(have hlt1 : k < l1.length := by have := HL.out; omega);(obtain ⟨ad, ead, hx0, hx1, hx2⟩ := at_T34 HR0.out (k : Int) (by omega) (by omega));(obtain ⟨bd, ebd, hy0, hy1, hy2⟩ := at_T34 HR1.out (k : Int) (by omega) (by omega));(cases ead);(cases ebd)
    have hd : l0.drop k = rd_T34 l0 (k : Int) :: l0.drop (k + 1) := by
     rw [List.drop_eq_getElem_cons hlt]; simp [rd_T34, hlt]
    have hd1 : l1.drop k = rd_T34 l1 (k : Int) :: l1.drop (k + 1) := by
     rw [List.drop_eq_getElem_cons hlt1]; simp [rd_T34, hlt1]
    (have hA := HA.out);(rw [hd, hd1] at hA);(clear hd hd1 HA);(generalize rd_T34 l0 (k : Int) = x at *);(generalize rd_T34 l1 (k : Int) = y at *);(replace hx0 := (HB.out.cell (World.block_lt_of_cell? w _ hx0)).trans hx0);(replace hx1 := (HB.out.cell (World.block_lt_of_cell? w _ hx1)).trans hx1);(replace hx2 := (HB.out.cell (World.block_lt_of_cell? w _ hx2)).trans hx2);(replace hy0 := (HB.out.cell (World.block_lt_of_cell? w _ hy0)).trans hy0);(replace hy1 := (HB.out.cell (World.block_lt_of_cell? w _ hy1)).trans hy1);(replace hy2 := (HB.out.cell (World.block_lt_of_cell? w _ hy2)).trans hy2);(rw [Int.toNat_natCast] at hx0 hx1 hx2 hy0 hy1 hy2);(have hz0 := fun o => pw_cell_below (below_alloc (Below.refl wr.heap.size wr) o) hy0);(have hz1 := fun o => pw_cell_below (below_alloc (Below.refl wr.heap.size wr) o) hy1);(have hz2 := fun o => pw_cell_below (below_alloc (Below.refl wr.heap.size wr) o) hy2);(have hlN : ((k : Int) < (l1.length : Int)) = True := eq_true (by omega));(rw [eqArcs] at hA);(obtain ⟨t, ht⟩ : ∃ t, (x.f0 == y.f0 && (x.f1 == y.f1 && x.f2 == y.f2)) = t := ⟨_, rfl⟩);(have HT : Aside0 (net_Same_1.f x.f0 x.f1 x.f2 y.f0 y.f1 y.f2 = some t) := ⟨by rw [← ht]; rfl⟩);(rw [ht] at hA);(clear ht)
    cases t with
    | false =>
     (rw [Bool.false_and] at hA);(subst hA)
     go_wp2_with (go_at_call 23; refine (net_Same_1.calls x.f0 x.f1 x.f2 y.f0 y.f1 y.f2 false _ HT.out).mono ?_; rintro e w' ⟨rfl, hb⟩)
     go_ret
     exact ⟨rfl, below_step (by repeat (first | (with_reducible first | exact HB.out | apply below_alloc | apply pw_below_drewN | apply below_drew1) | exact HB.out)) hb⟩
    | true =>
     (rw [Bool.true_and] at hA);(have HA := Aside0.mk hA);(clear hA)
     go_wp2_with (go_at_call 23; refine (net_Same_1.calls x.f0 x.f1 x.f2 y.f0 y.f1 y.f2 true _ HT.out).mono ?_; rintro e w' ⟨rfl, hb⟩)
     (obtain ⟨hk1, hk2⟩ := HK.out);(have HBN := Aside0.mk (below_step (by repeat (first | (with_reducible first | exact HB.out | apply below_alloc | apply pw_below_drewN | apply below_drew1) | exact HB.out)) hb))
     go_roundg (gk - 1)
     case measure => omega
     case rel => exact ⟨k + 1, by first | rfl | go_num, ⟨by omega⟩, HA, HBN⟩
   ·(have hkl : k = l0.length := by have := HK.out; omega);(have hkl1 : l1.length = k := by rw [hkl]; exact HL.out.symm);(have hA := HA.out);(rw [List.drop_of_length_le (by omega), List.drop_of_length_le (by omega)] at hA);(obtain rfl : true = b := hA);(clear hkl hkl1 HA)
    go_wp2
    go_ret
    exact ⟨rfl, HB.out⟩
 ·have hl1 : (l0.length == l1.length) = false := by simpa using hl
  have hl2 : ((l0.length : Int) == (l1.length : Int)) = false := by simp; omega
  have hl3 : ((l0.length : Int) != (l1.length : Int)) = true := by simp; omega
  obtain rfl : false = b := by rw [← H.out]; exact (eqArcs_len hl).symm
  clear hl
  go_enter Try.func24, Try.ntmps24
  go_wp2
  go_ret
  exact ⟨rfl, HB.out⟩
end Go.Proofs.Ytlkpapkcgafgeaa.PNetParts
