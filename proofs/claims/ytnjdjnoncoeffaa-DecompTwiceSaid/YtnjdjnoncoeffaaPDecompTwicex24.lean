/- For the law DecompTwice, for every input: printed by a program (wip/myprint), contracts by hand where it says MANUAL. -/
-- slim
import Derived.Test.YtnjdjnoncoeffaaPDecompTwicex0
import Derived.Test.YtnjdjnoncoeffaaPDecompTwicex9
import Derived.Maps.Views
namespace Go.Proofs.Ytnjdjnoncoeffaa.PDecompTwice
open Go.RowKit Go.Proofs.YtnjdjnoncoeffaaW.PrintWords Go.Proofs.YtnjdjnoncoeffaaW.PrintLast Go.Proofs.YtnjdjnoncoeffaaW.PrintMore
attribute [local go_sem] max2_int min2_int max_two min_two max_three min_three max_four min_four
set_option linter.unusedVariables false
set_option linter.unusedSimpArgs false
/-! ### decomp_right: function 26 -/
-- MANUAL: this contract was written by hand.
/-- An item's arcs, one behind the other: where they lead to, and the nodes met; none: they are no walk, or meet a node twice. -/
def dcGo (l : List S30) : List Int → Bool → Int → List Int → Option (Int × List Int)
 | [], _, last, met => some (last, met)
 | a :: rest_, more, last, met =>
  if a < 0 then none else if (l.length : Int) ≤ a then none
  else if more = true ∧ (rd_T30 l a).f0 ≠ last then none
  else if (rd_T30 l a).f0 ∈ met then none
  else dcGo l rest_ true (rd_T30 l a).f1 (met ++ [(rd_T30 l a).f0])
def dcFin (s t : Int) (l : List S30) (kind : Int) (xs : List Int) : Option (Int × List Int) → Bool
 | none => false
 | some (last, met) =>
  if kind = 112 then decide ((rd_T30 l (rd xs 0)).f0 = s ∧ last = t ∧ last ∉ met)
  else if kind = 98 then decide ((rd_T30 l (rd xs 0)).f0 = t ∧ last = s ∧ last ∉ met)
  else if kind = 99 then decide ((rd_T30 l (rd xs 0)).f0 = last) else false
def dcRight (s t : Int) (l : List S30) (kind : Int) (xs : List Int) (am : Int) : Bool :=
 if am < 1 then false else if xs.length = 0 then false else dcFin s t l kind xs (dcGo l xs false 0 [])
def dcSized (l : List S30) (xs : List Int) : Bool := decide (xs.length ≤ 1000000) && l.all (fun a => decide (-9223372036854775808 ≤ a.f0 ∧ a.f0 ≤ 9223372036854775807 ∧ -9223372036854775808 ≤ a.f1 ∧ a.f1 ≤ 9223372036854775807))
def decomp_right.f (a0_0 : Int) (a0_1 : Int) (a0_2 : Int) (l0_3 : List (S30)) (a1_0 : Int) (l1_1 : List Int) (a1_2 : Int) : Option Bool := if dcSized l0_3 l1_1 = true then some (dcRight a0_1 a0_2 l0_3 a1_0 l1_1 a1_2) else none
/-- A map that holds the nodes met. -/
def DcMap (W : World) (g : Nat) (met : List Int) : Prop := ∃ D : DataW Unit, W.ownsMap Try.prog 3 (plainElem Try.prog 4) g met.length D ∧ Maps.IsMap D ∧ ∀ z : Int, D.atKey (.int .i64 z) (.lit (.bool false)) = .lit (.bool (decide (z ∈ met)))
theorem dc_wf {z : Int} (h0 : -9223372036854775808 ≤ z) (h1 : z ≤ 9223372036854775807) : (Lit.int .i64 z).wf = true := by
 simp [Lit.wf, IntKind.min, IntKind.max, IntKind.signed, IntKind.bits]
 omega
theorem DcMap.look {W : World} {g : Nat} {met : List Int} (h : DcMap W g met) (z : Int) (h0 : -9223372036854775808 ≤ z) (h1 : z ≤ 9223372036854775807) : (Instr.lookup 73 (.map (some g)) (.int .i64 z) false).run Try.prog W = .ok (.bool (decide (z ∈ met))) W := by
 obtain ⟨D, hD, _, ha⟩ := h
 obtain ⟨v, ps, hrun, hv⟩ := hD.lookup (Maps.int_keyed Try.underlying3) Try.underlying73 (z := .bool false) (by kernel_rfl) (plainElem_bool Try.underlying4 false) (Maps.keyOf_int_mk Try.underlying3 (dc_wf h0 h1))
 rw [ha] at hv
 have hv2 : v = .bool (decide (z ∈ met)) := by
  unfold plainElem at hv
  rw [Try.underlying4] at hv
  cases v <;> simp at hv
  rw [hv.1]
 rw [hrun, hv2]
theorem DcMap.put {W1 : World} {g : Nat} {met : List Int} {D : DataW Unit} (hm : Maps.IsMap D) (ha : ∀ z : Int, D.atKey (.int .i64 z) (.lit (.bool false)) = .lit (.bool (decide (z ∈ met)))) {z : Int} (hD : W1.ownsMap Try.prog 3 (plainElem Try.prog 4) g (met.length + 1) (D.put (.int .i64 z) (.lit (.bool true)))) (h0 : -9223372036854775808 ≤ z) (h1 : z ≤ 9223372036854775807) : DcMap W1 g (met ++ [z]) := by
 refine ⟨_, by rw [List.length_append, List.length_singleton]; exact hD, hm.put _ _, fun y => ?_⟩
 by_cases c : y = z
 ·subst c
  rw [Maps.atKey_put_same hm (by trivial)]
  simp
 ·rw [Maps.atKey_put_other (by intro e; cases e; exact c rfl), ha]
  simp [c]
theorem DcMap.drew {W : World} {g : Nat} {met : List Int} (h : DcMap W g met) : DcMap W.drew g met := by
 obtain ⟨D, hD, r⟩ := h
 exact ⟨D, hD.drew, r⟩
set_option maxHeartbeats 8000000 in
set_option maxRecDepth 100000 in
theorem decomp_right.calls (a0_0 a0_1 a0_2 : Int) (A0_3 : Option Addr) (c0_3 : Nat) (l0_3 : List S30) (a1_0 : Int) (A1_1 : Option Addr) (c1_1 : Nat) (l1_1 : List Int) (a1_2 : Int) (r : Bool) (w : World) (hr0_3 : Kd.C k30 w A0_3 l0_3.length l0_3) (hc0_3 : l0_3.length ≤ c0_3) (hr1_1 : Kd.C (Kd.int .i64) w A1_1 l1_1.length l1_1) (hc1_1 : l1_1.length ≤ c1_1) (h : decomp_right.f a0_0 a0_1 a0_2 l0_3 a1_0 l1_1 a1_2 = some r) :
  Calls Try.prog 26 #[.agg #[.int .i64 a0_0, .int .i64 a0_1, .int .i64 a0_2, .slice A0_3 l0_3.length c0_3], .agg #[.int .u8 a1_0, .slice A1_1 l1_1.length c1_1, .int .i64 a1_2]] w fun e w' => e = .returned (.bool r) ∧ Below w.heap.size w w' := by
 have hu26 := Try.underlying26
 have hu30 := Try.underlying30
 have hu36 := Try.underlying36
 have HR := Aside0.mk hr0_3
 have HX := Aside0.mk hr1_1
 have HB := Aside0.mk (Below.refl w.heap.size w)
 clear hr0_3 hr1_1 hc0_3 hc1_1
 unfold decomp_right.f at h
 by_cases cs : dcSized l0_3 l1_1 = true
 ·rw [if_pos cs] at h
  have hr := Option.some.inj h
  clear h
  obtain ⟨hxl, hla⟩ : l1_1.length ≤ 1000000 ∧ ∀ j : Int, 0 ≤ j → j < (l0_3.length : Int) → -9223372036854775808 ≤ (rd_T30 l0_3 j).f0 ∧ (rd_T30 l0_3 j).f0 ≤ 9223372036854775807 ∧ -9223372036854775808 ≤ (rd_T30 l0_3 j).f1 ∧ (rd_T30 l0_3 j).f1 ≤ 9223372036854775807 := by
   (simp only [dcSized, Bool.and_eq_true, decide_eq_true_eq] at cs);(refine ⟨cs.1, fun j h0 h1 => ?_⟩);(have e_ : rd_T30 l0_3 j = l0_3[j.toNat]'(by omega) := by simp [rd_T30, show j.toNat < l0_3.length by omega]);(rw [e_]);(exact of_decide_eq_true (List.all_eq_true.1 cs.2 _ (List.getElem_mem _)))
  have HXL := Aside0.mk hxl
  have HLA := Aside0.mk hla
  clear cs hxl hla
  unfold dcRight at hr
  by_cases c1 : a1_2 < 1
  ·rw [if_pos c1] at hr
   subst hr
   go_enter Try.func26, Try.ntmps26
   go_wp2_with (first | ((with_reducible refine gate_dst (N := 2) rfl ?_); refine box_event ?hg (N := 2) ?hd (cs := #[.int .i64 a0_0, .int .i64 a0_1, .int .i64 a0_2, .slice A0_3 l0_3.length c0_3]) (t := 26) ?hr ?_; (case hd => rfl); (case hg => rfl); (case hr => first | (go_simp; done) | (go_simp; rfl)); intro gn hg w1 hbox hb; have HB1 := Aside0.mk (below_step HB.out hb); have BN := Aside0.mk hbox; have HG1 := Aside0.mk (hg ▸ Nat.le_refl _ : w.heap.size ≤ gn); clear HB hb hbox hg) | ((with_reducible refine gate_dst (N := 3) rfl ?_); refine box_event ?hg (N := 3) ?hd (cs := #[.int .u8 a1_0, .slice A1_1 l1_1.length c1_1, .int .i64 a1_2]) (t := 36) ?hr ?_; (case hd => rfl); (case hg => rfl); (case hr => first | (go_simp; done) | (go_simp; rfl)); intro gi hg w2 hbox hb; have HB2 := Aside0.mk (below_step HB1.out hb); have BN2 := Aside0.mk (blk_below BN.out hb); have BI2 := Aside0.mk hbox; have HG2 := Aside0.mk (hg ▸ below_size HB1.out : w.heap.size ≤ gi); clear HB1 BN hb hbox hg; have hcz0 : w2.cell? ⟨gn, 0, none⟩ = some (.int .i64 a0_0) := (blk_cell BN2.out 0).trans rfl; have hcz1 : w2.cell? ⟨gn, 1, none⟩ = some (.int .i64 a0_1) := (blk_cell BN2.out 1).trans rfl; have hcz2 : w2.cell? ⟨gn, 2, none⟩ = some (.int .i64 a0_2) := (blk_cell BN2.out 2).trans rfl; have hcz3 : w2.cell? ⟨gn, 3, none⟩ = some (.slice A0_3 l0_3.length c0_3) := (blk_cell BN2.out 3).trans rfl; have hci0 : w2.cell? ⟨gi, 0, none⟩ = some (.int .u8 a1_0) := (blk_cell BI2.out 0).trans rfl; have hci1 : w2.cell? ⟨gi, 1, none⟩ = some (.slice A1_1 l1_1.length c1_1) := (blk_cell BI2.out 1).trans rfl; have hci2 : w2.cell? ⟨gi, 2, none⟩ = some (.int .i64 a1_2) := (blk_cell BI2.out 2).trans rfl))
   go_ret
   exact ⟨rfl, HB2.out⟩
  ·rw [if_neg c1] at hr
   by_cases c2 : l1_1.length = 0
   ·(rw [if_pos c2] at hr);(subst hr);(have c2b : ((l1_1.length : Int) == 0) = true := by simp [c2])
    go_enter Try.func26, Try.ntmps26
    go_wp2_with (first | ((with_reducible refine gate_dst (N := 2) rfl ?_); refine box_event ?hg (N := 2) ?hd (cs := #[.int .i64 a0_0, .int .i64 a0_1, .int .i64 a0_2, .slice A0_3 l0_3.length c0_3]) (t := 26) ?hr ?_; (case hd => rfl); (case hg => rfl); (case hr => first | (go_simp; done) | (go_simp; rfl)); intro gn hg w1 hbox hb; have HB1 := Aside0.mk (below_step HB.out hb); have BN := Aside0.mk hbox; have HG1 := Aside0.mk (hg ▸ Nat.le_refl _ : w.heap.size ≤ gn); clear HB hb hbox hg) | ((with_reducible refine gate_dst (N := 3) rfl ?_); refine box_event ?hg (N := 3) ?hd (cs := #[.int .u8 a1_0, .slice A1_1 l1_1.length c1_1, .int .i64 a1_2]) (t := 36) ?hr ?_; (case hd => rfl); (case hg => rfl); (case hr => first | (go_simp; done) | (go_simp; rfl)); intro gi hg w2 hbox hb; have HB2 := Aside0.mk (below_step HB1.out hb); have BN2 := Aside0.mk (blk_below BN.out hb); have BI2 := Aside0.mk hbox; have HG2 := Aside0.mk (hg ▸ below_size HB1.out : w.heap.size ≤ gi); clear HB1 BN hb hbox hg; have hcz0 : w2.cell? ⟨gn, 0, none⟩ = some (.int .i64 a0_0) := (blk_cell BN2.out 0).trans rfl; have hcz1 : w2.cell? ⟨gn, 1, none⟩ = some (.int .i64 a0_1) := (blk_cell BN2.out 1).trans rfl; have hcz2 : w2.cell? ⟨gn, 2, none⟩ = some (.int .i64 a0_2) := (blk_cell BN2.out 2).trans rfl; have hcz3 : w2.cell? ⟨gn, 3, none⟩ = some (.slice A0_3 l0_3.length c0_3) := (blk_cell BN2.out 3).trans rfl; have hci0 : w2.cell? ⟨gi, 0, none⟩ = some (.int .u8 a1_0) := (blk_cell BI2.out 0).trans rfl; have hci1 : w2.cell? ⟨gi, 1, none⟩ = some (.slice A1_1 l1_1.length c1_1) := (blk_cell BI2.out 1).trans rfl; have hci2 : w2.cell? ⟨gi, 2, none⟩ = some (.int .i64 a1_2) := (blk_cell BI2.out 2).trans rfl))
    go_ret
    exact ⟨rfl, HB2.out⟩
   ·(rw [if_neg c2] at hr);(have c2b : ((l1_1.length : Int) == 0) = false := beq_eq_false_iff_ne.mpr (by omega));(have H := Aside0.mk hr);(have HC2 := Aside0.mk c2);(clear hr c2)
    go_enter Try.func26, Try.ntmps26
    go_wp2_with (first | ((with_reducible refine gate_dst (N := 2) rfl ?_); refine box_event ?hg (N := 2) ?hd (cs := #[.int .i64 a0_0, .int .i64 a0_1, .int .i64 a0_2, .slice A0_3 l0_3.length c0_3]) (t := 26) ?hr ?_; (case hd => rfl); (case hg => rfl); (case hr => first | (go_simp; done) | (go_simp; rfl)); intro gn hg w1 hbox hb; have HB1 := Aside0.mk (below_step HB.out hb); have BN := Aside0.mk hbox; have HG1 := Aside0.mk (hg ▸ Nat.le_refl _ : w.heap.size ≤ gn); clear HB hb hbox hg) | ((with_reducible refine gate_dst (N := 3) rfl ?_); refine box_event ?hg (N := 3) ?hd (cs := #[.int .u8 a1_0, .slice A1_1 l1_1.length c1_1, .int .i64 a1_2]) (t := 36) ?hr ?_; (case hd => rfl); (case hg => rfl); (case hr => first | (go_simp; done) | (go_simp; rfl)); intro gi hg w2 hbox hb; have HB2 := Aside0.mk (below_step HB1.out hb); have BN2 := Aside0.mk (blk_below BN.out hb); have BI2 := Aside0.mk hbox; have HG2 := Aside0.mk (hg ▸ below_size HB1.out : w.heap.size ≤ gi); clear HB1 BN hb hbox hg; have hcz0 : w2.cell? ⟨gn, 0, none⟩ = some (.int .i64 a0_0) := (blk_cell BN2.out 0).trans rfl; have hcz1 : w2.cell? ⟨gn, 1, none⟩ = some (.int .i64 a0_1) := (blk_cell BN2.out 1).trans rfl; have hcz2 : w2.cell? ⟨gn, 2, none⟩ = some (.int .i64 a0_2) := (blk_cell BN2.out 2).trans rfl; have hcz3 : w2.cell? ⟨gn, 3, none⟩ = some (.slice A0_3 l0_3.length c0_3) := (blk_cell BN2.out 3).trans rfl; have hci0 : w2.cell? ⟨gi, 0, none⟩ = some (.int .u8 a1_0) := (blk_cell BI2.out 0).trans rfl; have hci1 : w2.cell? ⟨gi, 1, none⟩ = some (.slice A1_1 l1_1.length c1_1) := (blk_cell BI2.out 1).trans rfl; have hci2 : w2.cell? ⟨gi, 2, none⟩ = some (.int .i64 a1_2) := (blk_cell BI2.out 2).trans rfl) | ((with_reducible refine gate_dst (N := 19) rfl ?_); refine Kd.event_run (v := .map (some w2.heap.size)) (w1 := w2.alloc (.map #[] 0)) rfl rfl ?_; have HMP : Aside0 (DcMap (w2.alloc (.map #[] 0)) w2.heap.size []) := ⟨⟨.map [], World.ownsMap_made w2 _ _ _, Maps.isMap_empty, fun z => by simp [DataW.atKey]⟩⟩; have hbm : Below w2.heap.size w2 (w2.alloc (.map #[] 0)) := below_alloc (Below.refl _ _) _; have HB3 := Aside0.mk (below_step HB2.out hbm); have BN3 := Aside0.mk (blk_below BN2.out hbm); have BI3 := Aside0.mk (blk_below BI2.out hbm); have HG3 := Aside0.mk (below_size HB2.out); have HN3 := Aside0.mk (Nat.ne_of_lt (blk_lt BN2.out)); have HI3 := Aside0.mk (Nat.ne_of_lt (blk_lt BI2.out)); clear hbm HB2 BN2 BI2 hcz0 hcz1 hcz2 hcz3 hci0 hci1 hci2; generalize w2.alloc (.map #[] 0) = w3 at *; generalize w2.heap.size = gm at *; have hcz0 : w3.cell? ⟨gn, 0, none⟩ = some (.int .i64 a0_0) := (blk_cell BN3.out 0).trans rfl; have hcz1 : w3.cell? ⟨gn, 1, none⟩ = some (.int .i64 a0_1) := (blk_cell BN3.out 1).trans rfl; have hcz2 : w3.cell? ⟨gn, 2, none⟩ = some (.int .i64 a0_2) := (blk_cell BN3.out 2).trans rfl; have hcz3 : w3.cell? ⟨gn, 3, none⟩ = some (.slice A0_3 l0_3.length c0_3) := (blk_cell BN3.out 3).trans rfl; have hci0 : w3.cell? ⟨gi, 0, none⟩ = some (.int .u8 a1_0) := (blk_cell BI3.out 0).trans rfl; have hci1 : w3.cell? ⟨gi, 1, none⟩ = some (.slice A1_1 l1_1.length c1_1) := (blk_cell BI3.out 1).trans rfl; have hci2 : w3.cell? ⟨gi, 2, none⟩ = some (.int .i64 a1_2) := (blk_cell BI3.out 2).trans rfl))
    clear c1 c2b hcz0 hcz1 hcz2 hcz3 hci0 hci1 hci2
    go_loopg [6, 23] (l1_1.length + 1) (fun kq v6 v23 wr => ∃ (j : Nat) (last : Int) (met : List Int), v23 = .int .i64 j ∧ v6 = .int .i64 last ∧ Aside0 (j + kq = l1_1.length + 1 ∧ 0 < kq) ∧ Aside0 (dcFin a0_1 a0_2 l0_3 a1_0 l1_1 (dcGo l0_3 (l1_1.drop j) (decide (0 < j)) last met) = r) ∧ Aside0 (DcMap wr gm met ∧ met.length ≤ j) ∧ Aside0 (wr.heap[gn]? = some (.cells #[.int .i64 a0_0, .int .i64 a0_1, .int .i64 a0_2, .slice A0_3 l0_3.length c0_3] 26 (0, 0))) ∧ Aside0 (wr.heap[gi]? = some (.cells #[.int .u8 a1_0, .slice A1_1 l1_1.length c1_1, .int .i64 a1_2] 36 (0, 0))) ∧ Aside0 (Below w.heap.size w wr) ∧ Aside0 ((-9223372036854775808 ≤ last ∧ last ≤ 9223372036854775807) ∧ (0 < j → 0 ≤ rd l1_1 0 ∧ rd l1_1 0 < (l0_3.length : Int))))
    case atStart => exact ⟨0, 0, [], rfl, rfl, ⟨by omega⟩, ⟨by rw [List.drop_zero]; exact H.out⟩, ⟨HMP.out, Nat.le_refl _⟩, BN3, BI3, HB3, ⟨⟨by omega, by omega⟩, fun h_ => absurd h_ (by omega)⟩⟩
    case round =>
     (clear H HMP BN3 BI3 HB3);(obtain ⟨j, last, met, rfl, rfl, HK, HA, HM, HN, HI, HB, HL⟩ := hrel);(have hcz0 : wr.cell? ⟨gn, 0, none⟩ = some (.int .i64 a0_0) := (blk_cell HN.out 0).trans rfl);(have hcz1 : wr.cell? ⟨gn, 1, none⟩ = some (.int .i64 a0_1) := (blk_cell HN.out 1).trans rfl);(have hcz2 : wr.cell? ⟨gn, 2, none⟩ = some (.int .i64 a0_2) := (blk_cell HN.out 2).trans rfl);(have hcz3 : wr.cell? ⟨gn, 3, none⟩ = some (.slice A0_3 l0_3.length c0_3) := (blk_cell HN.out 3).trans rfl);(have hci0 : wr.cell? ⟨gi, 0, none⟩ = some (.int .u8 a1_0) := (blk_cell HI.out 0).trans rfl);(have hci1 : wr.cell? ⟨gi, 1, none⟩ = some (.slice A1_1 l1_1.length c1_1) := (blk_cell HI.out 1).trans rfl);(have hci2 : wr.cell? ⟨gi, 2, none⟩ = some (.int .i64 a1_2) := (blk_cell HI.out 2).trans rfl)
     by_cases hlt : j < l1_1.length
     ·(have hlt2 : (j : Int) < (l1_1.length : Int) := by omega);(have hj0 : (0 : Int) ≤ (j : Int) := by omega);(obtain ⟨ax, ea, hrd⟩ := Kd.at_int (Kd.C_below HX.out HB.out) (j : Int) hj0 hlt2);(subst ea);(have hA := HA.out);(rw [List.drop_eq_getElem_cons hlt] at hA);(have er : rd l1_1 (j : Int) = l1_1[j] := by simp [rd, hlt]);(rw [er, Int.toNat_natCast] at hrd);(have HJ0 : Aside0 (j = 0 → rd l1_1 0 = l1_1[j]) := ⟨fun e_ => by subst e_; exact er⟩);(generalize l1_1[j] = a at hA hrd HJ0);(clear er HA);(unfold dcGo at hA)
      by_cases b1 : a < 0
      ·(rw [if_pos b1] at hA);(have hr : false = r := hA);(subst hr)
       go_wp2_with fail
       go_ret
       exact ⟨rfl, HB.out⟩
      ·(rw [if_neg b1] at hA);(have b1b : 0 ≤ a := by omega)
       by_cases b2 : (l0_3.length : Int) ≤ a
       ·(rw [if_pos b2] at hA);(have hr : false = r := hA);(subst hr)
        go_wp2_with fail
        go_ret
        exact ⟨rfl, HB.out⟩
       ·(rw [if_neg b2] at hA);(have b2b : a < (l0_3.length : Int) := by omega);(obtain ⟨ad, ead, hx0, hx1, hx2⟩ := at_T30 (Kd.C_below HR.out HB.out) a b1b b2b);(subst ead);(have hw := HLA.out a b1b b2b);(obtain ⟨F, hF⟩ : ∃ F, (rd_T30 l0_3 a).f0 = F := ⟨_, rfl⟩);(obtain ⟨T, hT⟩ : ∃ T, (rd_T30 l0_3 a).f1 = T := ⟨_, rfl⟩);(rw [hF, hT] at hA);(rw [hF] at hx0);(rw [hF, hT] at hw);(have HW := Aside0.mk hw);(have HT := Aside0.mk hT);(have HAR := Aside0.mk (And.intro b1b b2b));(have hlk := HM.out.1.look F hw.1 hw.2.1);(clear hw hF hT)
        by_cases b3 : 0 < j ∧ F ≠ last
        ·(rw [if_pos ⟨decide_eq_true b3.1, b3.2⟩] at hA);(have hr : false = r := hA);(subst hr);(obtain ⟨b3a, b3b⟩ := b3);(have b3a2 : (0 : Int) < (j : Int) := by omega);(have b3c : (F == last) = false := beq_eq_false_iff_ne.mpr b3b);(have b3d : (F != last) = true := bne_iff_ne.mpr b3b);(clear hlk)
         go_wp2_with fail
         go_ret
         exact ⟨rfl, HB.out⟩
        ·rw [if_neg (fun e_ => b3 ⟨of_decide_eq_true e_.1, e_.2⟩)] at hA
         by_cases b4 : F ∈ met
         ·(rw [if_pos b4] at hA);(have hr : false = r := hA);(subst hr);(rw [decide_eq_true b4] at hlk);(clear b4)
          by_cases b5 : 0 < j
          ·(have b5b : (0 : Int) < (j : Int) := by omega);(have b5c : F = last := Classical.byContradiction (fun e_ => b3 ⟨b5, e_⟩));(have b5d : (F != last) = false := bne_eq_false_iff_eq.mpr b5c);(clear b3 b5c)
           go_wp2_with fail
           go_ret
           exact ⟨rfl, HB.out⟩
          ·(have b5b : ¬ (0 : Int) < (j : Int) := by omega);(clear b3)
           go_wp2_with fail
           go_ret
           exact ⟨rfl, HB.out⟩
         ·(rw [if_neg b4] at hA);(have HA2 := Aside0.mk hA);(rw [decide_eq_false b4] at hlk);(clear b4 hA)
          by_cases b5 : 0 < j
          ·(have b5b : (0 : Int) < (j : Int) := by omega);(have b5c : F = last := Classical.byContradiction (fun e_ => b3 ⟨b5, e_⟩));(have b5d : (F != last) = false := bne_eq_false_iff_eq.mpr b5c);(clear b3 b5c);(have HMX : Aside0 (met.length < maxLen) := ⟨by have h1_ := HM.out.2; have h2_ := HXL.out; show met.length < 9223372036854775807; omega⟩)
           go_wp2_with (at_mapUpdate; obtain ⟨D_, hD_, hm_, ha_⟩ := HM.out.1; refine wpList_mapUpdate_own _ rfl _ _ _ 73 rfl 3 4 (Maps.int_keyed Try.underlying3) Try.underlying73 (plainElem Try.prog 4) gm met.length D_ rfl hD_ HMX.out _ _ (.int .i64 F) rfl rfl (Maps.keyOf_int_mk Try.underlying3 (dc_wf HW.out.1 HW.out.2.1)) (.lit (.bool true)) [] (plainElem_bool Try.underlying4 true) ?_; intro w9 hown hgrow; have HM9 := Aside0.mk (DcMap.put hm_ ha_ hown HW.out.1 HW.out.2.1); have HB9 := Aside0.mk (HB.out.grown hgrow (below_size HB.out) (fun k_ hk_ => by cases hk_; exact HG3.out)); have HN9 := Aside0.mk ((hgrow.block gn (blk_lt HN.out) (fun e_ => HN3.out (Option.some.inj e_))).trans HN.out); have HI9 := Aside0.mk ((hgrow.block gi (blk_lt HI.out) (fun e_ => HI3.out (Option.some.inj e_))).trans HI.out); clear hown hgrow hD_ hm_ ha_ D_ hcz0 hcz1 hcz2 hcz3 hci0 hci1 hci2 hx0 hx1 hx2 hrd hlk; have hcz0 : w9.cell? ⟨gn, 0, none⟩ = some (.int .i64 a0_0) := (blk_cell HN9.out 0).trans rfl; have hcz1 : w9.cell? ⟨gn, 1, none⟩ = some (.int .i64 a0_1) := (blk_cell HN9.out 1).trans rfl; have hcz2 : w9.cell? ⟨gn, 2, none⟩ = some (.int .i64 a0_2) := (blk_cell HN9.out 2).trans rfl; have hcz3 : w9.cell? ⟨gn, 3, none⟩ = some (.slice (some ad) l0_3.length c0_3) := (blk_cell HN9.out 3).trans rfl; have hci0 : w9.cell? ⟨gi, 0, none⟩ = some (.int .u8 a1_0) := (blk_cell HI9.out 0).trans rfl; have hci1 : w9.cell? ⟨gi, 1, none⟩ = some (.slice (some ax) l1_1.length c1_1) := (blk_cell HI9.out 1).trans rfl; have hci2 : w9.cell? ⟨gi, 2, none⟩ = some (.int .i64 a1_2) := (blk_cell HI9.out 2).trans rfl; obtain ⟨ad9, ead9, hx0, hx1, hx2⟩ := at_T30 (Kd.C_below HR.out HB9.out) a HAR.out.1 HAR.out.2; cases ead9; rw [HT.out] at hx1)
           obtain ⟨hk1, hk2⟩ := HK.out
           go_roundg (gk - 1)
           case measure => omega
           case rel => exact ⟨j + 1, T, met ++ [F], (by first | rfl | exact dc_succ (by have h_ := HXL.out; omega)), rfl, ⟨by omega⟩, ⟨by rw [decide_eq_true (show 0 < j + 1 by omega)]; exact HA2.out⟩, ⟨HM9.out, by have h_ := HM.out.2; rw [List.length_append, List.length_singleton]; omega⟩, HN9, HI9, HB9, ⟨⟨HW.out.2.2.1, HW.out.2.2.2⟩, fun _ => HL.out.2 b5⟩⟩
          ·(have b5b : ¬ (0 : Int) < (j : Int) := by omega);(clear b3);(have HMX : Aside0 (met.length < maxLen) := ⟨by have h1_ := HM.out.2; have h2_ := HXL.out; show met.length < 9223372036854775807; omega⟩)
           go_wp2_with (at_mapUpdate; obtain ⟨D_, hD_, hm_, ha_⟩ := HM.out.1; refine wpList_mapUpdate_own _ rfl _ _ _ 73 rfl 3 4 (Maps.int_keyed Try.underlying3) Try.underlying73 (plainElem Try.prog 4) gm met.length D_ rfl hD_ HMX.out _ _ (.int .i64 F) rfl rfl (Maps.keyOf_int_mk Try.underlying3 (dc_wf HW.out.1 HW.out.2.1)) (.lit (.bool true)) [] (plainElem_bool Try.underlying4 true) ?_; intro w9 hown hgrow; have HM9 := Aside0.mk (DcMap.put hm_ ha_ hown HW.out.1 HW.out.2.1); have HB9 := Aside0.mk (HB.out.grown hgrow (below_size HB.out) (fun k_ hk_ => by cases hk_; exact HG3.out)); have HN9 := Aside0.mk ((hgrow.block gn (blk_lt HN.out) (fun e_ => HN3.out (Option.some.inj e_))).trans HN.out); have HI9 := Aside0.mk ((hgrow.block gi (blk_lt HI.out) (fun e_ => HI3.out (Option.some.inj e_))).trans HI.out); clear hown hgrow hD_ hm_ ha_ D_ hcz0 hcz1 hcz2 hcz3 hci0 hci1 hci2 hx0 hx1 hx2 hrd hlk; have hcz0 : w9.cell? ⟨gn, 0, none⟩ = some (.int .i64 a0_0) := (blk_cell HN9.out 0).trans rfl; have hcz1 : w9.cell? ⟨gn, 1, none⟩ = some (.int .i64 a0_1) := (blk_cell HN9.out 1).trans rfl; have hcz2 : w9.cell? ⟨gn, 2, none⟩ = some (.int .i64 a0_2) := (blk_cell HN9.out 2).trans rfl; have hcz3 : w9.cell? ⟨gn, 3, none⟩ = some (.slice (some ad) l0_3.length c0_3) := (blk_cell HN9.out 3).trans rfl; have hci0 : w9.cell? ⟨gi, 0, none⟩ = some (.int .u8 a1_0) := (blk_cell HI9.out 0).trans rfl; have hci1 : w9.cell? ⟨gi, 1, none⟩ = some (.slice (some ax) l1_1.length c1_1) := (blk_cell HI9.out 1).trans rfl; have hci2 : w9.cell? ⟨gi, 2, none⟩ = some (.int .i64 a1_2) := (blk_cell HI9.out 2).trans rfl; obtain ⟨ad9, ead9, hx0, hx1, hx2⟩ := at_T30 (Kd.C_below HR.out HB9.out) a HAR.out.1 HAR.out.2; cases ead9; rw [HT.out] at hx1)
           obtain ⟨hk1, hk2⟩ := HK.out
           go_roundg (gk - 1)
           case measure => omega
           case rel => exact ⟨j + 1, T, met ++ [F], (by first | rfl | exact dc_succ (by have h_ := HXL.out; omega)), rfl, ⟨by omega⟩, ⟨by rw [decide_eq_true (show 0 < j + 1 by omega)]; exact HA2.out⟩, ⟨HM9.out, by have h_ := HM.out.2; rw [List.length_append, List.length_singleton]; omega⟩, HN9, HI9, HB9, ⟨⟨HW.out.2.2.1, HW.out.2.2.2⟩, fun _ => by rw [HJ0.out (by omega)]; exact HAR.out⟩⟩
     ·(have hge : ¬ ((j : Int) < (l1_1.length : Int)) := by omega);(have hA := HA.out);(have hc2 := HC2.out);(obtain ⟨hk1, hk2⟩ := HK.out);(have hjp : 0 < j := by omega);(rw [List.drop_of_length_le (by omega)] at hA);(unfold dcGo dcFin at hA);(simp only at hA);(obtain ⟨hz0, hz1⟩ := HL.out.2 hjp);(have hlk := HM.out.1.look last HL.out.1.1 HL.out.1.2);(have hlkd := HM.out.1.drew.look last HL.out.1.1 HL.out.1.2);(obtain ⟨ax, ea, hrd⟩ := Kd.at_int (Kd.C_below HX.out HB.out) 0 (Int.le_refl _) (by omega));(subst ea);(obtain ⟨A0_, hA0_⟩ : ∃ a_, rd l1_1 0 = a_ := ⟨_, rfl⟩);(rw [hA0_] at hz0 hz1 hrd hA);(have hrd0 : wr.cell? ax = some (.int .i64 A0_) := hrd);(have hxn : 0 < l1_1.length := by omega);(obtain ⟨ad, ead, hx0, hx1, hx2⟩ := at_T30 (Kd.C_below HR.out HB.out) A0_ hz0 hz1);(subst ead);(obtain ⟨F, hF⟩ : ∃ F, (rd_T30 l0_3 A0_).f0 = F := ⟨_, rfl⟩);(rw [hF] at hA hx0);(have hxp : (0 : Int) < (l1_1.length : Int) := by omega);(have HBD := Aside0.mk (below_drew HB.out));(clear HA HL HK hk1 hk2 hjp hc2 hA0_ hF)
      by_cases d1 : a1_0 = 112
      ·(rw [if_pos d1] at hA);(subst d1)
       by_cases e1 : F = a0_1
       ·have e1b : (F == a0_1) = true := beq_iff_eq.mpr e1
        by_cases e2 : last = a0_2
        ·have e2b : (last == a0_2) = true := beq_iff_eq.mpr e2
         by_cases e3 : last ∈ met
         ·(rw [decide_eq_false (fun e_ => e_.2.2 e3)] at hA);(rw [decide_eq_true e3] at hlk hlkd);(subst hA);(clear e1 e2 e3)
          go_wp2_with fail
          go_region
          all_goals (go_wp2_with fail)
          all_goals go_ret
          all_goals exact ⟨rfl, HBD.out⟩
         ·(rw [decide_eq_true ⟨e1, e2, e3⟩] at hA);(rw [decide_eq_false e3] at hlk hlkd);(subst hA);(clear e1 e2 e3)
          go_wp2_with fail
          go_region
          all_goals (go_wp2_with fail)
          all_goals go_ret
          all_goals exact ⟨rfl, HBD.out⟩
        ·(have e2b : (last == a0_2) = false := beq_eq_false_iff_ne.mpr e2);(rw [decide_eq_false (fun e_ => e2 e_.2.1)] at hA);(subst hA);(clear e1 e2 hlk hlkd)
         go_wp2_with fail
         go_region
         all_goals (go_wp2_with fail)
         all_goals go_ret
         all_goals exact ⟨rfl, HBD.out⟩
       ·(have e1b : (F == a0_1) = false := beq_eq_false_iff_ne.mpr e1);(rw [decide_eq_false (fun e_ => e1 e_.1)] at hA);(subst hA);(clear e1 hlk hlkd)
        go_wp2_with fail
        go_region
        all_goals (go_wp2_with fail)
        all_goals go_ret
        all_goals exact ⟨rfl, HBD.out⟩
      ·(rw [if_neg d1] at hA);(have d1b : (a1_0 == 112) = false := beq_eq_false_iff_ne.mpr d1)
       by_cases d2 : a1_0 = 98
       ·(rw [if_pos d2] at hA);(subst d2);(clear d1)
        by_cases e1 : F = a0_2
        ·have e1b : (F == a0_2) = true := beq_iff_eq.mpr e1
         by_cases e2 : last = a0_1
         ·have e2b : (last == a0_1) = true := beq_iff_eq.mpr e2
          by_cases e3 : last ∈ met
          ·(rw [decide_eq_false (fun e_ => e_.2.2 e3)] at hA);(rw [decide_eq_true e3] at hlk hlkd);(subst hA);(clear e1 e2 e3)
           go_wp2_with fail
           go_region
           all_goals (go_wp2_with fail)
           all_goals go_ret
           all_goals exact ⟨rfl, HBD.out⟩
          ·(rw [decide_eq_true ⟨e1, e2, e3⟩] at hA);(rw [decide_eq_false e3] at hlk hlkd);(subst hA);(clear e1 e2 e3)
           go_wp2_with fail
           go_region
           all_goals (go_wp2_with fail)
           all_goals go_ret
           all_goals exact ⟨rfl, HBD.out⟩
         ·(have e2b : (last == a0_1) = false := beq_eq_false_iff_ne.mpr e2);(rw [decide_eq_false (fun e_ => e2 e_.2.1)] at hA);(subst hA);(clear e1 e2 hlk hlkd)
          go_wp2_with fail
          go_region
          all_goals (go_wp2_with fail)
          all_goals go_ret
          all_goals exact ⟨rfl, HBD.out⟩
        ·(have e1b : (F == a0_2) = false := beq_eq_false_iff_ne.mpr e1);(rw [decide_eq_false (fun e_ => e1 e_.1)] at hA);(subst hA);(clear e1 hlk hlkd)
         go_wp2_with fail
         go_region
         all_goals (go_wp2_with fail)
         all_goals go_ret
         all_goals exact ⟨rfl, HBD.out⟩
       ·(rw [if_neg d2] at hA);(have d2b : (a1_0 == 98) = false := beq_eq_false_iff_ne.mpr d2)
        by_cases d3 : a1_0 = 99
        ·(rw [if_pos d3] at hA);(subst d3);(clear d1 d2 hlk hlkd)
         by_cases e1 : F = last
         ·(have e1b : (F == last) = true := beq_iff_eq.mpr e1);(rw [decide_eq_true e1] at hA);(subst hA);(clear e1)
          go_wp2_with fail
          go_region
          all_goals (go_wp2_with fail)
          all_goals go_ret
          all_goals exact ⟨rfl, HBD.out⟩
         ·(have e1b : (F == last) = false := beq_eq_false_iff_ne.mpr e1);(rw [decide_eq_false e1] at hA);(subst hA);(clear e1)
          go_wp2_with fail
          go_region
          all_goals (go_wp2_with fail)
          all_goals go_ret
          all_goals exact ⟨rfl, HBD.out⟩
        ·(rw [if_neg d3] at hA);(have d3b : (a1_0 == 99) = false := beq_eq_false_iff_ne.mpr d3);(subst hA);(clear d1 d2 d3 hlk hlkd)
         go_wp2_with fail
         go_region
         all_goals (go_wp2_with fail)
         all_goals go_ret
         all_goals exact ⟨rfl, HBD.out⟩
 ·rw [if_neg cs] at h
  cases h
end Go.Proofs.Ytnjdjnoncoeffaa.PDecompTwice
