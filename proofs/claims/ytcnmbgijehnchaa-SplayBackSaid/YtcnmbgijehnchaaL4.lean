/- SplayBack: the law's walk (by hand). -/
import Derived.Test.YtcnmbgijehnchaaS27
import Derived.Deep.RegionHeld3
set_option linter.unusedVariables false
set_option linter.unusedSimpArgs false
namespace Go.Proofs.YtcnmbgijehnchaaW.Splay
open Go.RowKit Go.Shelf Go.Proofs.YtcnmbgijehnchaaW.PrintWords Go.Proofs.YtcnmbgijehnchaaW.PrintLast Go.Proofs.YtcnmbgijehnchaaW.PrintMore Go.Proofs.YtcnmbgijehnchaaW.Mine
attribute [local go_sem] max2_int min2_int max_two min_two max_three min_three max_four min_four Oper.semAt_some
/-- The items joined so far, in some order. -/
def Bk (vs : List Int) (i : Nat) (U : List (Int × Int)) : Prop := U.Perm (rowTo vs i)
theorem Bk.mem {vs : List Int} {i j : Nat} {U : List (Int × Int)} (h : Bk vs i U) (hj : j < i) : (j : Int) ∈ U.map Prod.fst := (h.map _).mem_iff.2 (rowTo_mem hj)
section
variable {w0 w : World} {gs gn N cap i : Nat} {vs : List Int} {U : List (Int × Int)}
theorem back_join (h : Fm w0 w gs gn N cap (U :: singles vs i)) (hU : Bk vs i U) (hj : 0 < i) (hi : i < vs.length) :
    Calls Try.prog 15 #[.pointer (some ⟨gs, 0, none⟩), .int .i64 0, .int .i64 (i : Int)] w fun e w' => e = .returned (.int .i64 0) ∧ Fm w0 w' gs gn N cap ((U ++ [item vs i]) :: singles vs (i + 1)) ∧ Bk vs (i + 1) (U ++ [item vs i]) ∧ Ke gs gn w w' := by
  rw [singles_cons hi] at h
  refine (h.join (List.Perm.refl _) (hU.mem (j := 0) hj) (show (i : Int) ∈ [(i : Int)] from List.mem_singleton.2 rfl)).mono ?_
  rintro e w' ⟨he, hF, hK⟩
  refine ⟨he, hF, ?_, hK⟩
  unfold Bk
  rw [rowTo_succ]
  exact List.Perm.append_right _ hU
theorem back_turn (h : Fm w0 w gs gn N cap (U :: singles vs (i + 1))) (hU : Bk vs (i + 1) U) :
    Calls Try.prog 17 #[.pointer (some ⟨gs, 0, none⟩), .int .i64 (i : Int)] w fun e w' => (∃ v, e = .returned v) ∧ Fm w0 w' gs gn N cap (U.reverse :: singles vs (i + 1)) ∧ Bk vs (i + 1) U.reverse ∧ Ke gs gn w w' := by
  refine (h.turn (List.Perm.refl _) (hU.mem (Nat.lt_succ_self i))).mono ?_
  rintro e w' ⟨he, hF, hK⟩
  exact ⟨he, hF, (List.reverse_perm U).trans hU, hK⟩
theorem back_same (h : Fm w0 w gs gn N cap (U :: singles vs (i + 1))) (hU : Bk vs (i + 1) U) :
    Calls Try.prog 15 #[.pointer (some ⟨gs, 0, none⟩), .int .i64 (i : Int), .int .i64 0] w fun e w' => e = .returned (.int .i64 5) ∧ Fm w0 w' gs gn N cap (U :: singles vs (i + 1)) ∧ Ke gs gn w w' :=
  h.join_same List.mem_cons_self (hU.mem (Nat.lt_succ_self i)) (hU.mem (j := 0) (Nat.succ_pos i))
end
set_option maxHeartbeats 16000000 in
set_option maxRecDepth 100000 in
theorem back_law {w : World} {A : Option Addr} {vs : List Int} {c : Nat} {c1 d : Int} (hr : Rds w A vs) (hwf : ∀ x ∈ vs, (Lit.int .i64 x).wf = true) (hlc : vs.length ≤ 140737488351232) (hc1 : (Lit.int .i64 c1).wf = true) (hd : (Lit.int .i64 d).wf = true) (b : Bool) :
    Calls Try.prog 6 #[.slice A vs.length c, .int .i64 c1, .int .i64 d, .bool b] w fun e w' => e = .returned (.bool true) ∧ Below w.heap.size w w' := by
  have HR := Aside0.mk hr
  clear hr hwf
  by_cases c0 : vs.length = 0
  · have c0b : ((vs.length : Int) == 0) = true := by simp [c0]
    have c0c : (vs.length == 0) = true := by simp [c0]
    have c0d : decide ((60 : Int) < (vs.length : Int)) = false := decide_eq_false (by omega)
    go_enter Try.func6, Try.ntmps6
    go_wp2_with (go_at_call 12; (with_reducible refine (shown_calls _).mono ?_); rintro e w1 ⟨rfl, hB⟩; have HB1 := Aside0.mk hB; clear hB)
    go_ret
    exact ⟨rfl, HB1.out⟩
  · by_cases c1' : 60 < vs.length
    · have c1b : (60 : Int) < (vs.length : Int) := by omega
      go_enter Try.func6, Try.ntmps6
      go_wp2_with (go_at_call 12; (with_reducible refine (shown_calls _).mono ?_); rintro e w1 ⟨rfl, hB⟩; have HB1 := Aside0.mk hB; clear hB)
      go_ret
      exact ⟨rfl, HB1.out⟩
    · obtain ⟨n, hn⟩ : ∃ n, vs.length = n := ⟨_, rfl⟩
      have HN : Aside0 (1 ≤ n ∧ n ≤ 60) := ⟨by omega⟩
      have HVL := Aside0.mk hn
      have c0b : ((n : Int) == 0) = false := beq_eq_false_iff_ne.mpr (by omega)
      have c1b : (n : Int) ≤ 60 := by omega
      have c1c : decide ((60 : Int) < (n : Int)) = false := decide_eq_false (by omega)
      rw [hn]
      clear hn c0 c1' hlc
      by_cases hv : ∀ v ∈ vs, -4611686018427387904 ≤ v ∧ v ≤ 4611686018427387904
      · have HVB := Aside0.mk hv
        clear hv
        go_enter Try.func6, Try.ntmps6
        (try simp only [List.append_eq, List.cons_append, List.nil_append])
        go_wp2_with (first
          | (go_at_call 12; (with_reducible refine (shown_calls _).mono ?_); rintro e wb ⟨rfl, hB⟩; have HB1 := Aside0.mk hB; have HRB := Aside0.mk (HR.out.below hB); clear hB)
          | (go_at_call 14; refine (Fm.newn (w0 := wb) (vs := vs) HVL.out (Below.refl _ _) HRB.out (by have h_ := HN.out; omega) (by have h_ := HN.out; omega) HVB.out).mono ?_; rintro e w1 ⟨rfl, hB, gn, cap, hgn, hF⟩; rw [rows_one (by have h_ := HN.out; have h2_ := HVL.out; omega)] at hF; have HF1 := Aside0.mk hF; clear hF hB))
        obtain ⟨gs, hgs⟩ : ∃ gs, wb.heap.size = gs := ⟨_, rfl⟩
        rw [hgs] at HF1 ⊢
        clear hgs hgn c1c
        go_loopg [12] (n + 1) (fun kq v12 wq => ∃ (i : Nat) (U : List (Int × Int)), v12 = .int .i64 (i : Int) ∧ Aside0 (i + kq = n + 2 ∧ 1 < kq ∧ 1 ≤ i) ∧ Aside0 (Fm wb wq gs gn n cap (U :: singles vs i)) ∧ Aside0 (Bk vs i U))
        case atStart => exact ⟨1, _, rfl, ⟨by have h_ := HN.out; omega⟩, HF1, ⟨List.Perm.refl _⟩⟩
        case round =>
          clear HF1
          obtain ⟨i, U, rfl, HK, HF2, HU⟩ := hrel
          by_cases c8 : i < n
          · have hlt : (i : Int) < (n : Int) := by omega
            have HK4 : Aside0 (i + 1 + (n + 1 - i) = n + 2 ∧ 1 < n + 1 - i ∧ 1 ≤ i + 1 ∧ n + 1 - i < gk) := ⟨by have h_ := HK.out; omega⟩
            have HW1 := Aside0.mk (wr1 i (by have h_ := HN.out; omega))
            cases b
            · go_wp2_with (first
                | (go_at_call 15; (with_reducible refine (back_join HF2.out HU.out (by have h_ := HK.out; omega) (by have h_ := HVL.out; omega)).mono ?_); rintro e w3 ⟨rfl, hF, hU, hK⟩; have HF3 := Aside0.mk hF; have HU3 := Aside0.mk hU; clear hF hK hU HF2 HU)
                | (go_at_call 15; (with_reducible refine (back_same HF3.out HU3.out).mono ?_); rintro e w4 ⟨rfl, hF, hK⟩; have HF4 := Aside0.mk hF; clear hF hK HF3))
              go_roundg (n + 1 - i)
              case measure => exact HK4.out.2.2.2
              case rel => exact ⟨i + 1, _, by first | rw [HW1.out] | rfl, ⟨⟨HK4.out.1, HK4.out.2.1, HK4.out.2.2.1⟩⟩, HF4, HU3⟩
            · go_wp2_with (first
                | (go_at_call 15; (with_reducible refine (back_join HF2.out HU.out (by have h_ := HK.out; omega) (by have h_ := HVL.out; omega)).mono ?_); rintro e w3 ⟨rfl, hF, hU, hK⟩; have HF3 := Aside0.mk hF; have HU3 := Aside0.mk hU; clear hF hK hU HF2 HU)
                | (go_at_call 17; (with_reducible refine (back_turn HF3.out HU3.out).mono ?_); rintro e w5 ⟨⟨v5, rfl⟩, hF, hU, hK⟩; have HF5 := Aside0.mk hF; have HU5 := Aside0.mk hU; clear hF hK hU HF3 HU3)
                | (go_at_call 15; (with_reducible refine (back_same HF5.out HU5.out).mono ?_); rintro e w4 ⟨rfl, hF, hK⟩; have HF4 := Aside0.mk hF; clear hF hK HF5))
              go_roundg (n + 1 - i)
              case measure => exact HK4.out.2.2.2
              case rel => exact ⟨i + 1, _, by first | rw [HW1.out] | rfl, ⟨⟨HK4.out.1, HK4.out.2.1, HK4.out.2.2.1⟩⟩, HF4, HU5⟩
          · obtain rfl : i = n := by have h_ := HK.out; omega
            obtain ⟨m, hm⟩ : ∃ m, i = m + 1 := ⟨i - 1, by have h_ := HN.out; omega⟩
            rw [singles_all vs HVL.out] at HF2
            have HUL : Aside0 (U.length = i) := ⟨by rw [HU.out.length_eq, rowTo_length]⟩
            have hi0 : (0 : Int) < (i : Int) := by have h_ := HN.out; omega
            have px := pk_range (c := c1) hi0
            obtain ⟨x, hx⟩ : ∃ z, pk c1 (i : Int) = z := ⟨_, rfl⟩
            rw [hx] at px
            have HPX := Aside0.mk hx
            have HWX := Aside0.mk (wf_bounds hc1)
            have hxW : x ∈ U.map Prod.fst := by
              have h_ := HU.out.mem (j := x.toNat) (by omega)
              rwa [show ((x.toNat : Nat) : Int) = x by omega] at h_
            have h0W : (0 : Int) ∈ U.map Prod.fst := HU.out.mem (j := 0) (by have h_ := HN.out; omega)
            obtain ⟨L, v, R, e⟩ := part_at hxW
            obtain ⟨k, hk⟩ : ∃ z, L.length = z := ⟨_, rfl⟩
            obtain ⟨ks, hks⟩ : ∃ z, U.map Prod.fst = z := ⟨_, rfl⟩
            obtain ⟨y0, hy0, my0⟩ := key_at (W := U) (k := 0) HUL.out (by have h_ := HN.out; omega)
            obtain ⟨y1, hy1, my1⟩ := key_at (W := U) (k := m) HUL.out (by omega)
            have hkx : (U.map Prod.fst)[k]? = some x := by rw [e, List.map_append, List.getElem?_append_right (by rw [List.length_map, hk]; exact Nat.le_refl _), List.length_map, hk, Nat.sub_self]; rfl
            obtain ⟨q, hq⟩ : ∃ z, ((x, v) :: R).length = z := ⟨_, rfl⟩
            have HKQ : Aside0 (k < i ∧ i - k = q ∧ i = k + q ∧ i ≤ 1000 ∧ ks.length = i) := ⟨by
              have h1_ := HUL.out
              have h2_ := HN.out
              have h3_ : i = k + q := by rw [← h1_, e, List.length_append, hk, hq]
              have h4_ : 0 < q := by rw [← hq, List.length_cons]; omega
              have h5_ : ks.length = i := by rw [← hks, List.length_map, h1_]
              omega⟩
            have HTK : Aside0 (ks.take k = L.map Prod.fst) := ⟨by rw [← hks, e, List.map_append, ← hk, List.take_append_of_le_length (by rw [List.length_map]; exact Nat.le_refl _), ← List.length_map (f := Prod.fst), List.take_length]⟩
            have HDK : Aside0 (ks.drop k = ((x, v) :: R).map Prod.fst) := ⟨by rw [← hks, e, List.map_append, ← hk, List.drop_append_of_le_length (by rw [List.length_map]; exact Nat.le_refl _), ← List.length_map (f := Prod.fst), List.drop_length, List.nil_append]⟩
            have HKS := Aside0.mk hks
            have HQ := Aside0.mk hq
            have HKK := Aside0.mk hk
            have HY0 := Aside0.mk hy0
            have HY1 := Aside0.mk hy1
            have HKX := Aside0.mk hkx
            have HE := Aside0.mk e
            have HUP := Aside0.mk HU.out
            have HX2 : Aside0 (ks[k]? = some x) := ⟨by rw [← hks]; exact hkx⟩
            have HZ2 : Aside0 (ks[0]? = some y0) := ⟨by rw [← hks]; exact hy0⟩
            have HW2 : Aside0 (ks[m]? = some y1) := ⟨by rw [← hks]; exact hy1⟩
            have HXR : x ∈ ((x, v) :: R).map Prod.fst := List.mem_cons_self
            have HND : Aside0 (U.map Prod.fst).Nodup := ⟨by have h_ := HF2.out.nodup; simpa using h_⟩
            have HBD : Aside0 (∀ y ∈ U, -4611686018427387904 ≤ y.2 ∧ y.2 ≤ 4611686018427387904) := ⟨HF2.out.bd U List.mem_cons_self⟩
            have HKL : Aside0 (q ≤ 1000000 ∧ i ≤ 1000000 ∧ i - k ≤ 1000000 ∧ k ≤ 1000000 ∧ (ks.take k).length = k ∧ (ks.drop k).length = i - k) := ⟨by have h_ := HKQ.out; clear px; rw [List.length_take, List.length_drop]; omega⟩
            obtain ⟨dd, hdd⟩ : ∃ z, Int.tmod d 1000 = z := ⟨_, rfl⟩
            have hds := tmod_small d
            rw [hdd] at hds
            have HDS := Aside0.mk hds
            have HDD := Aside0.mk hdd
            have hdn : -1000 ≤ -dd ∧ -dd ≤ 1000 := by omega
            have HDN := Aside0.mk hdn
            obtain ⟨hwd, hwd2⟩ := wrd hds
            have h1k : (k : Int) < (i : Int) := by have h_ := HKQ.out; clear hds hdn px; omega
            have h2k : decide ((i : Int) ≤ (k : Int)) = false := decide_eq_false (by clear hds hdn px; omega)
            have h3k : decide (i ≤ k) = false := decide_eq_false (by clear hds hdn px; omega)
            have h4k : k < i := by clear hds hdn px; omega
            have h5k : (0 : Int) ≤ (k : Int) := Int.natCast_nonneg k
            have h6k : decide ((k : Int) < 0) = false := decide_eq_false (by clear hds hdn px; omega)
            have h7k : 0 < i := by clear hds hdn px; omega
            have h1m : (m : Int) < (i : Int) := by clear hds hdn px; omega
            have h2m : (0 : Int) ≤ (m : Int) := Int.natCast_nonneg m
            have h3m : (i : Int) - 1 = (m : Int) := by clear hds hdn px; omega
            have h4m : IntKind.i64.wrap (m : Int) = (m : Int) := (wr3 m (by have h_ := HN.out; clear hds hdn px; omega)).2.2.2.1
            have h5m : IntKind.i64.wrap ((i : Int) - 1) = (m : Int) := by rw [h3m]; exact h4m
            have h6m : wrap64 ((i : Int) - 1) = (m : Int) := by rw [h3m]; exact (wr3 m (by have h_ := HN.out; clear hds hdn px; omega)).2.2.1
            have h7m : wrap64 (m : Int) = (m : Int) := (wr3 m (by have h_ := HN.out; clear hds hdn px; omega)).2.2.1
            have h8m : m < i := by clear hds hdn px; omega
            have HIM := Aside0.mk hm
            clear hx px hk hks hy0 hy1 hkx hq e hds hdn hm HK HU hdd
            have hnt : ((i : Int) != (i : Int)) = false := by simp
            go_wp2_with (first
              | (go_at_call 20; (with_reducible refine (HF2.out.rowc List.mem_cons_self h0W).mono ?_); rw [HUL.out, HKS.out]; rintro e w2 ⟨g2, c2, rfl, hc2, hm2, hg2, hr2, hF, hb⟩; have HG2 : Aside0 (g2 ≠ gs ∧ g2 ≠ gn) := ⟨by have h_ := HF2.out.ke; omega⟩; have HC2 := Aside0.mk hc2; have HF3 := Aside0.mk hF; have HR2 := Aside0.mk hr2; clear hF hb hr2 hg2 hc2 hm2 HF2)
              | (go_at_call 13; (with_reducible refine (pick_calls _ HWX.out.1 HWX.out.2 hi0).mono ?_); rw [HPX.out]; rintro e w' ⟨rfl, hw'⟩; have hw' := hw'.symm; subst hw')
              | (go_at_call 21; (with_reducible refine (HF3.out.place_i List.mem_cons_self HKX.out).mono ?_); rintro e w3 ⟨rfl, hF, hK⟩; have HF4 := Aside0.mk hF; have HR3 := Aside0.mk (HR2.out.ke hK HG2.out.1 HG2.out.2); clear hF hK HF3 HR2)
              | (go_at_call 23; (with_reducible refine (HF4.out.first_i List.mem_cons_self hxW HY0.out).mono ?_); rintro e w4 ⟨rfl, hF, hK⟩; have HF5 := Aside0.mk hF; have HR4 := Aside0.mk (HR3.out.ke hK HG2.out.1 HG2.out.2); clear hF hK HF4 HR3))
            have HF5d := Aside0.mk HF5.out.drew
            have HR5d := Aside0.mk (HR4.out.below (below_drew (Below.refl _ _)))
            clear HF5 HR4
            have hS5 : w4.drew.cell? ⟨g2, k, none⟩ = some (.int .i64 x) ∧ w4.drew.cell? ⟨g2, 0, none⟩ = some (.int .i64 y0) ∧ w4.drew.cell? ⟨g2, m, none⟩ = some (.int .i64 y1) := ⟨HR5d.out.get HX2.out, HR5d.out.get HZ2.out, HR5d.out.get HW2.out⟩
            have hck : ¬ c2 = k := Nat.ne_of_gt (Nat.lt_of_lt_of_le HKQ.out.1 HC2.out)
            have hck2 : ¬ k = c2 := fun e => hck e.symm
            have hkc : (k : Int) ≤ (c2 : Int) := Int.ofNat_le.2 (Nat.le_trans (Nat.le_of_lt HKQ.out.1) HC2.out)
            have hkc2 : (k : Int) ≤ (i : Int) := Int.le_of_lt h1k
            have hic : (i : Int) ≤ (c2 : Int) := Int.ofNat_le.2 HC2.out
            have hd2 : decide (((x, v) :: R).map Prod.fst = ks.drop k) = true := decide_eq_true HDK.out.symm
            have HML : Aside0 (U.length = m + 1) := ⟨HUL.out.trans HIM.out⟩
            rcases Nat.eq_zero_or_pos k with rfl | hkp
            · as_aux_lemma =>
                have hL0 : L = [] := List.eq_nil_of_length_eq_zero HKK.out
                subst hL0
                have HCUT : Aside0 (cutL [] ((x, v) :: R) [] = [(x, v) :: R]) := ⟨rfl⟩
                have hXU : (x, v) :: R ∈ [(x, v) :: R] := List.mem_cons_self
                obtain rfl : x = y0 := by
                  have h1_ := HKX.out
                  have h2_ := HY0.out
                  exact Option.some.inj (h1_.symm.trans h2_)
                have hd2 : decide (((x, v) :: R).map Prod.fst = ks) = true := decide_eq_true (by have h_ := HDK.out; rw [List.drop_zero] at h_; exact h_.symm)
                have h00 : ((0 : Nat) : Int) = 0 := rfl
                simp only [h00] at h1k h2k h5k h6k hkc hkc2 ⊢
                have h9a : decide ((i : Int) ≤ 0) = false := h2k
                have h9b : ¬ i = 0 := Nat.ne_of_gt h7k
                have h9c : decide (i = 0) = false := decide_eq_false h9b
                have h9d : decide ((i : Int) = 0) = false := decide_eq_false (fun e => h9b (Int.ofNat.inj e))
                have h9e : (0 : Int) < (i : Int) := h1k
                refine wp_region_held_drew (S := (fun W_ => W_.cell? ⟨g2, 0, none⟩ = some (.int .i64 x) ∧ W_.cell? ⟨g2, 0, none⟩ = some (.int .i64 x) ∧ W_.cell? ⟨g2, m, none⟩ = some (.int .i64 y1))) (by kernel_rfl) (show _ from hS5) (fun hHeld => ?_)
                refine wpAnyH_take (i := 0) (oi := { dst := some 83, op := Op.move (Operand.tmp 14), type := 22, pos := "law.go:177", after := #[], guard := none }) (v := ?_) rfl (by kernel_rfl) (by kernel_rfl) (by kernel_rfl) (fun _ _ _ h => h) (Or.inl ⟨by rfl, ?hy0⟩) (by assumption) ?_
                case hy0 => (intro w_ hSw; (try dsimp only at hSw); go_simp; try (with_reducible rfl))
                (try simp only [Act.put, List.setIfInBounds_toArray, List.set_cons_zero, List.set_cons_succ])
                refine wpAnyH_take (i := 1) (oi := { dst := some 84, op := Op.call { callee := Callee.builtin Builtin.len, args := #[Operand.tmp 83], argTypes := #[22] }, type := 3, pos := "law.go:177", after := #[{ on := 0, ground := Ground.data }], guard := none }) (v := ?_) rfl (by kernel_rfl) (by kernel_rfl) (by kernel_rfl) (fun _ _ _ h => h) (Or.inl ⟨by rfl, ?hy1⟩) (by assumption) ?_
                case hy1 => (intro w_ hSw; (try dsimp only at hSw); go_simp; try (with_reducible rfl))
                (try simp only [Act.put, List.setIfInBounds_toArray, List.set_cons_zero, List.set_cons_succ])
                refine wpAnyH_take (i := 2) (oi := { dst := some 85, op := Op.move (Operand.tmp 0), type := 24, pos := "law.go:177", after := #[], guard := none }) (v := ?_) rfl (by kernel_rfl) (by kernel_rfl) (by kernel_rfl) (fun _ _ _ h => h) (Or.inl ⟨by rfl, ?hy2⟩) (by assumption) ?_
                case hy2 => (intro w_ hSw; (try dsimp only at hSw); go_simp; try (with_reducible rfl))
                (try simp only [Act.put, List.setIfInBounds_toArray, List.set_cons_zero, List.set_cons_succ])
                refine wpAnyH_take (i := 3) (oi := { dst := some 86, op := Op.call { callee := Callee.builtin Builtin.len, args := #[Operand.tmp 85], argTypes := #[24] }, type := 3, pos := "law.go:177", after := #[{ on := 2, ground := Ground.data }], guard := none }) (v := ?_) rfl (by kernel_rfl) (by kernel_rfl) (by kernel_rfl) (fun _ _ _ h => h) (Or.inl ⟨by rfl, ?hy3⟩) (by assumption) ?_
                case hy3 => (intro w_ hSw; (try dsimp only at hSw); go_simp; try (with_reducible rfl))
                (try simp only [Act.put, List.setIfInBounds_toArray, List.set_cons_zero, List.set_cons_succ])
                refine wpAnyH_take (i := 4) (oi := { dst := some 87, op := Op.binOp BinOp.neq 3 (Operand.tmp 84) (Operand.tmp 86) 3, type := 4, pos := "law.go:177", after := #[{ on := 1, ground := Ground.data }, { on := 3, ground := Ground.data }], guard := none }) (v := ?_) rfl (by kernel_rfl) (by kernel_rfl) (by kernel_rfl) (fun _ _ _ h => h) (Or.inl ⟨by rfl, ?hy4⟩) (by assumption) ?_
                case hy4 => (intro w_ hSw; (try dsimp only at hSw); go_simp; try (with_reducible rfl))
                (try simp only [Act.put, List.setIfInBounds_toArray, List.set_cons_zero, List.set_cons_succ])
                refine wpAnyH_take (i := 5) (oi := { dst := some 88, op := Op.move (Operand.tmp 87), type := 4, pos := "law.go:177", after := #[{ on := 4, ground := Ground.data }], guard := none }) (v := ?_) rfl (by kernel_rfl) (by kernel_rfl) (by kernel_rfl) (fun _ _ _ h => h) (Or.inl ⟨by rfl, ?hy5⟩) (by assumption) ?_
                case hy5 => (intro w_ hSw; (try dsimp only at hSw); go_simp; try (with_reducible rfl))
                (try simp only [Act.put, List.setIfInBounds_toArray, List.set_cons_zero, List.set_cons_succ])
                refine wpAnyH_take (i := 6) (oi := { dst := some 89, op := Op.move (Operand.tmp 16), type := 3, pos := "law.go:177", after := #[{ on := 5, ground := Ground.guard }], guard := some (5, false) }) (v := ?_) rfl (by kernel_rfl) (by kernel_rfl) (by kernel_rfl) (fun _ _ _ h => h) (Or.inl ⟨by rfl, ?hy6⟩) (by assumption) ?_
                case hy6 => (intro w_ hSw; (try dsimp only at hSw); go_simp; try (with_reducible rfl))
                (try simp only [Act.put, List.setIfInBounds_toArray, List.set_cons_zero, List.set_cons_succ])
                refine wpAnyH_take (i := 7) (oi := { dst := some 90, op := Op.binOp BinOp.lss 3 (Operand.tmp 89) (Operand.const (Value.int IntKind.i64 0)) 3, type := 4, pos := "law.go:177", after := #[{ on := 6, ground := Ground.data }, { on := 5, ground := Ground.guard }], guard := some (5, false) }) (v := ?_) rfl (by kernel_rfl) (by kernel_rfl) (by kernel_rfl) (fun _ _ _ h => h) (Or.inl ⟨by rfl, ?hy7⟩) (by assumption) ?_
                case hy7 => (intro w_ hSw; (try dsimp only at hSw); go_simp; try (with_reducible rfl))
                (try simp only [Act.put, List.setIfInBounds_toArray, List.set_cons_zero, List.set_cons_succ])
                refine wpAnyH_take (i := 8) (oi := { dst := some 91, op := Op.pick (Operand.tmp 88) (Operand.const (Value.bool true)) (Operand.tmp 90), type := 4, pos := "law.go:177", after := #[{ on := 5, ground := Ground.data }, { on := 7, ground := Ground.data }], guard := none }) (v := ?_) rfl (by kernel_rfl) (by kernel_rfl) (by kernel_rfl) (fun _ _ _ h => h) (Or.inl ⟨by rfl, ?hy8⟩) (by assumption) ?_
                case hy8 => (intro w_ hSw; (try dsimp only at hSw); go_simp; try (with_reducible rfl))
                (try simp only [Act.put, List.setIfInBounds_toArray, List.set_cons_zero, List.set_cons_succ])
                refine wpAnyH_take (i := 9) (oi := { dst := some 92, op := Op.move (Operand.tmp 91), type := 4, pos := "law.go:177", after := #[{ on := 8, ground := Ground.data }, { on := 5, ground := Ground.chain }], guard := none }) (v := ?_) rfl (by kernel_rfl) (by kernel_rfl) (by kernel_rfl) (fun _ _ _ h => h) (Or.inl ⟨by rfl, ?hy9⟩) (by assumption) ?_
                case hy9 => (intro w_ hSw; (try dsimp only at hSw); go_simp; try (with_reducible rfl))
                (try simp only [Act.put, List.setIfInBounds_toArray, List.set_cons_zero, List.set_cons_succ])
                refine wpAnyH_take (i := 10) (oi := { dst := some 93, op := Op.move (Operand.tmp 16), type := 3, pos := "law.go:177", after := #[{ on := 9, ground := Ground.guard }], guard := some (9, false) }) (v := ?_) rfl (by kernel_rfl) (by kernel_rfl) (by kernel_rfl) (fun _ _ _ h => h) (Or.inl ⟨by rfl, ?hy10⟩) (by assumption) ?_
                case hy10 => (intro w_ hSw; (try dsimp only at hSw); go_simp; try (with_reducible rfl))
                (try simp only [Act.put, List.setIfInBounds_toArray, List.set_cons_zero, List.set_cons_succ])
                refine wpAnyH_take (i := 11) (oi := { dst := some 94, op := Op.move (Operand.tmp 14), type := 22, pos := "law.go:177", after := #[{ on := 9, ground := Ground.guard }], guard := some (9, false) }) (v := ?_) rfl (by kernel_rfl) (by kernel_rfl) (by kernel_rfl) (fun _ _ _ h => h) (Or.inl ⟨by rfl, ?hy11⟩) (by assumption) ?_
                case hy11 => (intro w_ hSw; (try dsimp only at hSw); go_simp; try (with_reducible rfl))
                (try simp only [Act.put, List.setIfInBounds_toArray, List.set_cons_zero, List.set_cons_succ])
                refine wpAnyH_take (i := 12) (oi := { dst := some 95, op := Op.call { callee := Callee.builtin Builtin.len, args := #[Operand.tmp 94], argTypes := #[22] }, type := 3, pos := "law.go:177", after := #[{ on := 11, ground := Ground.data }, { on := 9, ground := Ground.guard }], guard := some (9, false) }) (v := ?_) rfl (by kernel_rfl) (by kernel_rfl) (by kernel_rfl) (fun _ _ _ h => h) (Or.inl ⟨by rfl, ?hy12⟩) (by assumption) ?_
                case hy12 => (intro w_ hSw; (try dsimp only at hSw); go_simp; try (with_reducible rfl))
                (try simp only [Act.put, List.setIfInBounds_toArray, List.set_cons_zero, List.set_cons_succ])
                refine wpAnyH_take (i := 13) (oi := { dst := some 96, op := Op.binOp BinOp.geq 3 (Operand.tmp 93) (Operand.tmp 95) 3, type := 4, pos := "law.go:177", after := #[{ on := 10, ground := Ground.data }, { on := 12, ground := Ground.data }, { on := 9, ground := Ground.guard }], guard := some (9, false) }) (v := ?_) rfl (by kernel_rfl) (by kernel_rfl) (by kernel_rfl) (fun _ _ _ h => h) (Or.inl ⟨by rfl, ?hy13⟩) (by assumption) ?_
                case hy13 => (intro w_ hSw; (try dsimp only at hSw); go_simp; try (with_reducible rfl))
                (try simp only [Act.put, List.setIfInBounds_toArray, List.set_cons_zero, List.set_cons_succ])
                refine wpAnyH_take (i := 14) (oi := { dst := some 97, op := Op.pick (Operand.tmp 92) (Operand.const (Value.bool true)) (Operand.tmp 96), type := 4, pos := "law.go:177", after := #[{ on := 9, ground := Ground.data }, { on := 13, ground := Ground.data }], guard := none }) (v := ?_) rfl (by kernel_rfl) (by kernel_rfl) (by kernel_rfl) (fun _ _ _ h => h) (Or.inl ⟨by rfl, ?hy14⟩) (by assumption) ?_
                case hy14 => (intro w_ hSw; (try dsimp only at hSw); go_simp; try (with_reducible rfl))
                (try simp only [Act.put, List.setIfInBounds_toArray, List.set_cons_zero, List.set_cons_succ])
                refine wpAnyH_take (i := 15) (oi := { dst := some 98, op := Op.move (Operand.tmp 97), type := 4, pos := "law.go:177", after := #[{ on := 14, ground := Ground.data }, { on := 9, ground := Ground.chain }], guard := none }) (v := ?_) rfl (by kernel_rfl) (by kernel_rfl) (by kernel_rfl) (fun _ _ _ h => h) (Or.inl ⟨by rfl, ?hy15⟩) (by assumption) ?_
                case hy15 => (intro w_ hSw; (try dsimp only at hSw); go_simp; try (with_reducible rfl))
                (try simp only [Act.put, List.setIfInBounds_toArray, List.set_cons_zero, List.set_cons_succ])
                refine wpAnyH_take (i := 16) (oi := { dst := some 99, op := Op.move (Operand.tmp 14), type := 22, pos := "law.go:177", after := #[{ on := 15, ground := Ground.guard }], guard := some (15, false) }) (v := ?_) rfl (by kernel_rfl) (by kernel_rfl) (by kernel_rfl) (fun _ _ _ h => h) (Or.inl ⟨by rfl, ?hy16⟩) (by assumption) ?_
                case hy16 => (intro w_ hSw; (try dsimp only at hSw); go_simp; try (with_reducible rfl))
                (try simp only [Act.put, List.setIfInBounds_toArray, List.set_cons_zero, List.set_cons_succ])
                refine wpAnyH_take (i := 17) (oi := { dst := some 100, op := Op.move (Operand.tmp 16), type := 3, pos := "law.go:177", after := #[{ on := 15, ground := Ground.guard }], guard := some (15, false) }) (v := ?_) rfl (by kernel_rfl) (by kernel_rfl) (by kernel_rfl) (fun _ _ _ h => h) (Or.inl ⟨by rfl, ?hy17⟩) (by assumption) ?_
                case hy17 => (intro w_ hSw; (try dsimp only at hSw); go_simp; try (with_reducible rfl))
                (try simp only [Act.put, List.setIfInBounds_toArray, List.set_cons_zero, List.set_cons_succ])
                refine wpAnyH_take (i := 18) (oi := { dst := some 101, op := Op.indexAddr 22 (Operand.tmp 99) (Operand.tmp 100), type := 0, pos := "law.go:177", after := #[{ on := 16, ground := Ground.data }, { on := 17, ground := Ground.data }, { on := 15, ground := Ground.guard }], guard := some (15, false) }) (v := ?_) rfl (by kernel_rfl) (by kernel_rfl) (by kernel_rfl) (fun _ _ _ h => h) (Or.inl ⟨by rfl, ?hy18⟩) (by assumption) ?_
                case hy18 => (intro w_ hSw; (try dsimp only at hSw); go_simp; try (with_reducible rfl))
                (try simp only [Act.put, List.setIfInBounds_toArray, List.set_cons_zero, List.set_cons_succ])
                refine wpAnyH_take (i := 19) (oi := { dst := some 102, op := Op.load 3 (Operand.tmp 101), type := 3, pos := "law.go:177", after := #[{ on := 18, ground := Ground.data }, { on := 15, ground := Ground.guard }], guard := some (15, false) }) (v := ?_) rfl (by kernel_rfl) (by kernel_rfl) (by kernel_rfl) (fun _ _ _ h => h) (Or.inl ⟨by rfl, ?hy19⟩) (by assumption) ?_
                case hy19 => (intro w_ hSw; (try dsimp only at hSw); go_simp; try (with_reducible rfl))
                (try simp only [Act.put, List.setIfInBounds_toArray, List.set_cons_zero, List.set_cons_succ])
                refine wpAnyH_take (i := 20) (oi := { dst := some 103, op := Op.move (Operand.tmp 15), type := 3, pos := "law.go:177", after := #[{ on := 15, ground := Ground.guard }], guard := some (15, false) }) (v := ?_) rfl (by kernel_rfl) (by kernel_rfl) (by kernel_rfl) (fun _ _ _ h => h) (Or.inl ⟨by rfl, ?hy20⟩) (by assumption) ?_
                case hy20 => (intro w_ hSw; (try dsimp only at hSw); go_simp; try (with_reducible rfl))
                (try simp only [Act.put, List.setIfInBounds_toArray, List.set_cons_zero, List.set_cons_succ])
                refine wpAnyH_take (i := 21) (oi := { dst := some 104, op := Op.binOp BinOp.neq 3 (Operand.tmp 102) (Operand.tmp 103) 3, type := 4, pos := "law.go:177", after := #[{ on := 19, ground := Ground.data }, { on := 20, ground := Ground.data }, { on := 15, ground := Ground.guard }], guard := some (15, false) }) (v := ?_) rfl (by kernel_rfl) (by kernel_rfl) (by kernel_rfl) (fun _ _ _ h => h) (Or.inl ⟨by rfl, ?hy21⟩) (by assumption) ?_
                case hy21 => (intro w_ hSw; (try dsimp only at hSw); go_simp; try (with_reducible rfl))
                (try simp only [Act.put, List.setIfInBounds_toArray, List.set_cons_zero, List.set_cons_succ])
                refine wpAnyH_take (i := 22) (oi := { dst := some 105, op := Op.pick (Operand.tmp 98) (Operand.const (Value.bool true)) (Operand.tmp 104), type := 4, pos := "law.go:177", after := #[{ on := 15, ground := Ground.data }, { on := 21, ground := Ground.data }], guard := none }) (v := ?_) rfl (by kernel_rfl) (by kernel_rfl) (by kernel_rfl) (fun _ _ _ h => h) (Or.inl ⟨by rfl, ?hy22⟩) (by assumption) ?_
                case hy22 => (intro w_ hSw; (try dsimp only at hSw); go_simp; try (with_reducible rfl))
                (try simp only [Act.put, List.setIfInBounds_toArray, List.set_cons_zero, List.set_cons_succ])
                refine wpAnyH_take (i := 23) (oi := { dst := some 106, op := Op.move (Operand.tmp 105), type := 4, pos := "law.go:177", after := #[{ on := 22, ground := Ground.data }, { on := 15, ground := Ground.chain }], guard := none }) (v := ?_) rfl (by kernel_rfl) (by kernel_rfl) (by kernel_rfl) (fun _ _ _ h => h) (Or.inl ⟨by rfl, ?hy23⟩) (by assumption) ?_
                case hy23 => (intro w_ hSw; (try dsimp only at hSw); go_simp; try (with_reducible rfl))
                (try simp only [Act.put, List.setIfInBounds_toArray, List.set_cons_zero, List.set_cons_succ])
                refine wpAnyH_take (i := 24) (oi := { dst := some 107, op := Op.move (Operand.tmp 17), type := 3, pos := "law.go:177", after := #[{ on := 23, ground := Ground.guard }], guard := some (23, false) }) (v := ?_) rfl (by kernel_rfl) (by kernel_rfl) (by kernel_rfl) (fun _ _ _ h => h) (Or.inl ⟨by rfl, ?hy24⟩) (by assumption) ?_
                case hy24 => (intro w_ hSw; (try dsimp only at hSw); go_simp; try (with_reducible rfl))
                (try simp only [Act.put, List.setIfInBounds_toArray, List.set_cons_zero, List.set_cons_succ])
                refine wpAnyH_take (i := 25) (oi := { dst := some 108, op := Op.move (Operand.tmp 14), type := 22, pos := "law.go:177", after := #[{ on := 23, ground := Ground.guard }], guard := some (23, false) }) (v := ?_) rfl (by kernel_rfl) (by kernel_rfl) (by kernel_rfl) (fun _ _ _ h => h) (Or.inl ⟨by rfl, ?hy25⟩) (by assumption) ?_
                case hy25 => (intro w_ hSw; (try dsimp only at hSw); go_simp; try (with_reducible rfl))
                (try simp only [Act.put, List.setIfInBounds_toArray, List.set_cons_zero, List.set_cons_succ])
                refine wpAnyH_take (i := 26) (oi := { dst := some 109, op := Op.indexAddr 22 (Operand.tmp 108) (Operand.const (Value.int IntKind.i64 0)), type := 0, pos := "law.go:177", after := #[{ on := 25, ground := Ground.data }, { on := 23, ground := Ground.guard }], guard := some (23, false) }) (v := ?_) rfl (by kernel_rfl) (by kernel_rfl) (by kernel_rfl) (fun _ _ _ h => h) (Or.inl ⟨by rfl, ?hy26⟩) (by assumption) ?_
                case hy26 => (intro w_ hSw; (try dsimp only at hSw); go_simp; try (with_reducible rfl))
                (try simp only [Act.put, List.setIfInBounds_toArray, List.set_cons_zero, List.set_cons_succ])
                refine wpAnyH_take (i := 27) (oi := { dst := some 110, op := Op.load 3 (Operand.tmp 109), type := 3, pos := "law.go:177", after := #[{ on := 26, ground := Ground.data }, { on := 23, ground := Ground.guard }], guard := some (23, false) }) (v := ?_) rfl (by kernel_rfl) (by kernel_rfl) (by kernel_rfl) (fun _ _ _ h => h) (Or.inl ⟨by rfl, ?hy27⟩) (by assumption) ?_
                case hy27 => (intro w_ hSw; (try dsimp only at hSw); go_simp; try (with_reducible rfl))
                (try simp only [Act.put, List.setIfInBounds_toArray, List.set_cons_zero, List.set_cons_succ])
                refine wpAnyH_take (i := 28) (oi := { dst := some 111, op := Op.binOp BinOp.neq 3 (Operand.tmp 107) (Operand.tmp 110) 3, type := 4, pos := "law.go:177", after := #[{ on := 24, ground := Ground.data }, { on := 27, ground := Ground.data }, { on := 23, ground := Ground.guard }], guard := some (23, false) }) (v := ?_) rfl (by kernel_rfl) (by kernel_rfl) (by kernel_rfl) (fun _ _ _ h => h) (Or.inl ⟨by rfl, ?hy28⟩) (by assumption) ?_
                case hy28 => (intro w_ hSw; (try dsimp only at hSw); go_simp; try (with_reducible rfl))
                (try simp only [Act.put, List.setIfInBounds_toArray, List.set_cons_zero, List.set_cons_succ])
                refine wpAnyH_take (i := 29) (oi := { dst := some 112, op := Op.pick (Operand.tmp 106) (Operand.const (Value.bool true)) (Operand.tmp 111), type := 4, pos := "law.go:177", after := #[{ on := 23, ground := Ground.data }, { on := 28, ground := Ground.data }], guard := none }) (v := ?_) rfl (by kernel_rfl) (by kernel_rfl) (by kernel_rfl) (fun _ _ _ h => h) (Or.inl ⟨by rfl, ?hy29⟩) (by assumption) ?_
                case hy29 => (intro w_ hSw; (try dsimp only at hSw); go_simp; try (with_reducible rfl))
                (try simp only [Act.put, List.setIfInBounds_toArray, List.set_cons_zero, List.set_cons_succ])
                refine wpAnyH_take (i := 30) (oi := { dst := some 113, op := Op.move (Operand.tmp 112), type := 4, pos := "law.go:177", after := #[{ on := 29, ground := Ground.data }, { on := 23, ground := Ground.chain }], guard := none }) (v := ?_) rfl (by kernel_rfl) (by kernel_rfl) (by kernel_rfl) (fun _ _ _ h => h) (Or.inl ⟨by rfl, ?hy30⟩) (by assumption) ?_
                case hy30 => (intro w_ hSw; (try dsimp only at hSw); go_simp; try (with_reducible rfl))
                (try simp only [Act.put, List.setIfInBounds_toArray, List.set_cons_zero, List.set_cons_succ])
                refine wpAnyH_take (i := 31) (oi := { dst := some 114, op := Op.move (Operand.tmp 10), type := 26, pos := "law.go:177", after := #[{ on := 30, ground := Ground.guard }], guard := some (30, false) }) (v := ?_) rfl (by kernel_rfl) (by kernel_rfl) (by kernel_rfl) (fun _ _ _ h => h) (Or.inl ⟨by rfl, ?hy31⟩) (by assumption) ?_
                case hy31 => (intro w_ hSw; (try dsimp only at hSw); go_simp; try (with_reducible rfl))
                (try simp only [Act.put, List.setIfInBounds_toArray, List.set_cons_zero, List.set_cons_succ])
                refine wpAnyH_take (i := 32) (oi := { dst := some 115, op := Op.move (Operand.tmp 15), type := 3, pos := "law.go:177", after := #[{ on := 30, ground := Ground.guard }], guard := some (30, false) }) (v := ?_) rfl (by kernel_rfl) (by kernel_rfl) (by kernel_rfl) (fun _ _ _ h => h) (Or.inl ⟨by rfl, ?hy32⟩) (by assumption) ?_
                case hy32 => (intro w_ hSw; (try dsimp only at hSw); go_simp; try (with_reducible rfl))
                (try simp only [Act.put, List.setIfInBounds_toArray, List.set_cons_zero, List.set_cons_succ])
                refine wpAnyH_take (i := 33) (oi := { dst := some 116, op := Op.move (Operand.tmp 16), type := 3, pos := "law.go:177", after := #[{ on := 30, ground := Ground.guard }], guard := some (30, false) }) (v := ?_) rfl (by kernel_rfl) (by kernel_rfl) (by kernel_rfl) (fun _ _ _ h => h) (Or.inl ⟨by rfl, ?hy33⟩) (by assumption) ?_
                case hy33 => (intro w_ hSw; (try dsimp only at hSw); go_simp; try (with_reducible rfl))
                (try simp only [Act.put, List.setIfInBounds_toArray, List.set_cons_zero, List.set_cons_succ])
                refine wpAnyH_take (i := 35) (oi := { dst := some 118, op := Op.move (Operand.tmp 15), type := 3, pos := "law.go:177", after := #[{ on := 30, ground := Ground.guard }], guard := some (30, false) }) (v := ?_) rfl (by kernel_rfl) (by kernel_rfl) (by kernel_rfl) (fun _ _ _ h => h) (Or.inl ⟨by rfl, ?hy35⟩) (by assumption) ?_
                case hy35 => (intro w_ hSw; (try dsimp only at hSw); go_simp; try (with_reducible rfl))
                (try simp only [Act.put, List.setIfInBounds_toArray, List.set_cons_zero, List.set_cons_succ])
                refine wpAnyH_ready (rs := [34]) (by kernel_rfl) (by simp) ?_
                refine AllReadyH.cons (o := { dst := some 117, op := Op.call { callee := Callee.value (Operand.func 22), args := #[Operand.tmp 114, Operand.tmp 115, Operand.tmp 116], argTypes := #[26, 3, 3] }, type := 3, pos := "law.go:177", after := #[{ on := 31, ground := Ground.data }, { on := 32, ground := Ground.data }, { on := 33, ground := Ground.data }, { on := 30, ground := Ground.chain }, { on := 30, ground := Ground.guard }], guard := some (30, false) }) rfl (fun K_ hK => ?_) AllReadyH.nil
                go_simp
                (go_at_call 22; (refine (HF5d.out.at_i List.mem_cons_self hxW HKX.out).mono ?_); rintro e w6 ⟨rfl, hF, hK⟩; have HR6 := Aside0.mk (HR5d.out.ke hK HG2.out.1 HG2.out.2); have hS6 : w6.cell? ⟨g2, 0, none⟩ = some (.int .i64 x) ∧ w6.cell? ⟨g2, 0, none⟩ = some (.int .i64 x) ∧ w6.cell? ⟨g2, m, none⟩ = some (.int .i64 y1) := ⟨HR6.out.get HX2.out, HR6.out.get HZ2.out, HR6.out.get HW2.out⟩; have HF6 := Aside0.mk hF; clear hF hK)
                first | refine hK.out _ _ ?kp34 (fun hHeld => ?_) | (go_wp2_with fail; refine hK.out _ _ ?kp34 (fun hHeld => ?_))
                case kp34 => exact (by assumption)
                clear hK K_
                (try simp only [Act.put, List.setIfInBounds_toArray, List.set_cons_zero, List.set_cons_succ])
                refine wpAnyH_take (i := 36) (oi := { dst := some 119, op := Op.binOp BinOp.neq 3 (Operand.tmp 117) (Operand.tmp 118) 3, type := 4, pos := "law.go:177", after := #[{ on := 34, ground := Ground.data }, { on := 35, ground := Ground.data }, { on := 30, ground := Ground.guard }], guard := some (30, false) }) (v := ?_) rfl (by kernel_rfl) (by kernel_rfl) (by kernel_rfl) (fun _ _ _ h => h) (Or.inl ⟨by rfl, ?hy36⟩) (by assumption) ?_
                case hy36 => (intro w_ hSw; (try dsimp only at hSw); go_simp; try (with_reducible rfl))
                (try simp only [Act.put, List.setIfInBounds_toArray, List.set_cons_zero, List.set_cons_succ])
                refine wpAnyH_take (i := 37) (oi := { dst := some 120, op := Op.pick (Operand.tmp 113) (Operand.const (Value.bool true)) (Operand.tmp 119), type := 4, pos := "law.go:177", after := #[{ on := 30, ground := Ground.data }, { on := 36, ground := Ground.data }], guard := none }) (v := ?_) rfl (by kernel_rfl) (by kernel_rfl) (by kernel_rfl) (fun _ _ _ h => h) (Or.inl ⟨by rfl, ?hy37⟩) (by assumption) ?_
                case hy37 => (intro w_ hSw; (try dsimp only at hSw); go_simp; try (with_reducible rfl))
                (try simp only [Act.put, List.setIfInBounds_toArray, List.set_cons_zero, List.set_cons_succ])
                refine wpAnyH_take (i := 38) (oi := { dst := some 121, op := Op.move (Operand.tmp 120), type := 4, pos := "law.go:177", after := #[{ on := 37, ground := Ground.data }, { on := 34, ground := Ground.chain }], guard := none }) (v := ?_) rfl (by kernel_rfl) (by kernel_rfl) (by kernel_rfl) (fun _ _ _ h => h) (Or.inl ⟨by rfl, ?hy38⟩) (by assumption) ?_
                case hy38 => (intro w_ hSw; (try dsimp only at hSw); go_simp; try (with_reducible rfl))
                (try simp only [Act.put, List.setIfInBounds_toArray, List.set_cons_zero, List.set_cons_succ])
                refine wpAnyH_take (i := 39) (oi := { dst := some 122, op := Op.move (Operand.tmp 10), type := 26, pos := "law.go:177", after := #[{ on := 38, ground := Ground.guard }], guard := some (38, false) }) (v := ?_) rfl (by kernel_rfl) (by kernel_rfl) (by kernel_rfl) (fun _ _ _ h => h) (Or.inl ⟨by rfl, ?hy39⟩) (by assumption) ?_
                case hy39 => (intro w_ hSw; (try dsimp only at hSw); go_simp; try (with_reducible rfl))
                (try simp only [Act.put, List.setIfInBounds_toArray, List.set_cons_zero, List.set_cons_succ])
                refine wpAnyH_take (i := 40) (oi := { dst := some 123, op := Op.move (Operand.tmp 15), type := 3, pos := "law.go:177", after := #[{ on := 38, ground := Ground.guard }], guard := some (38, false) }) (v := ?_) rfl (by kernel_rfl) (by kernel_rfl) (by kernel_rfl) (fun _ _ _ h => h) (Or.inl ⟨by rfl, ?hy40⟩) (by assumption) ?_
                case hy40 => (intro w_ hSw; (try dsimp only at hSw); go_simp; try (with_reducible rfl))
                (try simp only [Act.put, List.setIfInBounds_toArray, List.set_cons_zero, List.set_cons_succ])
                refine wpAnyH_take (i := 42) (oi := { dst := some 125, op := Op.move (Operand.tmp 14), type := 22, pos := "law.go:177", after := #[{ on := 38, ground := Ground.guard }], guard := some (38, false) }) (v := ?_) rfl (by kernel_rfl) (by kernel_rfl) (by kernel_rfl) (fun _ _ _ h => h) (Or.inl ⟨by rfl, ?hy42⟩) (by assumption) ?_
                case hy42 => (intro w_ hSw; (try dsimp only at hSw); go_simp; try (with_reducible rfl))
                (try simp only [Act.put, List.setIfInBounds_toArray, List.set_cons_zero, List.set_cons_succ])
                refine wpAnyH_take (i := 43) (oi := { dst := some 126, op := Op.move (Operand.tmp 14), type := 22, pos := "law.go:177", after := #[{ on := 38, ground := Ground.guard }], guard := some (38, false) }) (v := ?_) rfl (by kernel_rfl) (by kernel_rfl) (by kernel_rfl) (fun _ _ _ h => h) (Or.inl ⟨by rfl, ?hy43⟩) (by assumption) ?_
                case hy43 => (intro w_ hSw; (try dsimp only at hSw); go_simp; try (with_reducible rfl))
                (try simp only [Act.put, List.setIfInBounds_toArray, List.set_cons_zero, List.set_cons_succ])
                refine wpAnyH_take (i := 44) (oi := { dst := some 127, op := Op.call { callee := Callee.builtin Builtin.len, args := #[Operand.tmp 126], argTypes := #[22] }, type := 3, pos := "law.go:177", after := #[{ on := 43, ground := Ground.data }, { on := 38, ground := Ground.guard }], guard := some (38, false) }) (v := ?_) rfl (by kernel_rfl) (by kernel_rfl) (by kernel_rfl) (fun _ _ _ h => h) (Or.inl ⟨by rfl, ?hy44⟩) (by assumption) ?_
                case hy44 => (intro w_ hSw; (try dsimp only at hSw); go_simp; try (with_reducible rfl))
                (try simp only [Act.put, List.setIfInBounds_toArray, List.set_cons_zero, List.set_cons_succ])
                refine wpAnyH_take (i := 45) (oi := { dst := some 128, op := Op.binOp BinOp.sub 3 (Operand.tmp 127) (Operand.const (Value.int IntKind.i64 1)) 3, type := 3, pos := "law.go:177", after := #[{ on := 44, ground := Ground.data }, { on := 38, ground := Ground.guard }], guard := some (38, false) }) (v := ?_) rfl (by kernel_rfl) (by kernel_rfl) (by kernel_rfl) (fun _ _ _ h => h) (Or.inl ⟨by rfl, ?hy45⟩) (by assumption) ?_
                case hy45 => (intro w_ hSw; (try dsimp only at hSw); go_simp; try (with_reducible rfl))
                (try simp only [Act.put, List.setIfInBounds_toArray, List.set_cons_zero, List.set_cons_succ])
                refine wpAnyH_take (i := 46) (oi := { dst := some 129, op := Op.indexAddr 22 (Operand.tmp 125) (Operand.tmp 128), type := 0, pos := "law.go:177", after := #[{ on := 42, ground := Ground.data }, { on := 45, ground := Ground.data }, { on := 38, ground := Ground.guard }], guard := some (38, false) }) (v := ?_) rfl (by kernel_rfl) (by kernel_rfl) (by kernel_rfl) (fun _ _ _ h => h) (Or.inl ⟨by rfl, ?hy46⟩) (by assumption) ?_
                case hy46 => (intro w_ hSw; (try dsimp only at hSw); go_simp; try (with_reducible rfl))
                (try simp only [Act.put, List.setIfInBounds_toArray, List.set_cons_zero, List.set_cons_succ])
                refine wpAnyH_take (i := 47) (oi := { dst := some 130, op := Op.load 3 (Operand.tmp 129), type := 3, pos := "law.go:177", after := #[{ on := 46, ground := Ground.data }, { on := 38, ground := Ground.guard }], guard := some (38, false) }) (v := ?_) rfl (by kernel_rfl) (by kernel_rfl) (by kernel_rfl) (fun _ _ _ h => h) (Or.inl ⟨by rfl, ?hy47⟩) (by assumption) ?_
                case hy47 => (intro w_ hSw; (try dsimp only at hSw); go_simp; try (with_reducible rfl))
                (try simp only [Act.put, List.setIfInBounds_toArray, List.set_cons_zero, List.set_cons_succ])
                refine wpAnyH_ready (rs := [41]) (by kernel_rfl) (by simp) ?_
                refine AllReadyH.cons (o := { dst := some 124, op := Op.call { callee := Callee.value (Operand.func 24), args := #[Operand.tmp 122, Operand.tmp 123], argTypes := #[26, 3] }, type := 3, pos := "law.go:177", after := #[{ on := 39, ground := Ground.data }, { on := 40, ground := Ground.data }, { on := 38, ground := Ground.chain }, { on := 38, ground := Ground.guard }], guard := some (38, false) }) rfl (fun K_ hK => ?_) AllReadyH.nil
                go_simp
                (go_at_call 24; (with_reducible refine (HF6.out.last_i List.mem_cons_self hxW HML.out HY1.out).mono ?_); rintro e w7 ⟨rfl, hF, hK⟩; have HR7 := Aside0.mk (HR6.out.ke hK HG2.out.1 HG2.out.2); have hS7 : w7.cell? ⟨g2, 0, none⟩ = some (.int .i64 x) ∧ w7.cell? ⟨g2, 0, none⟩ = some (.int .i64 x) ∧ w7.cell? ⟨g2, m, none⟩ = some (.int .i64 y1) := ⟨HR7.out.get HX2.out, HR7.out.get HZ2.out, HR7.out.get HW2.out⟩; have HF7 := Aside0.mk hF; clear hF hK)
                first | refine hK.out _ _ ?kp41 (fun hHeld => ?_) | (go_wp2_with fail; refine hK.out _ _ ?kp41 (fun hHeld => ?_))
                case kp41 => exact (by assumption)
                clear hK K_
                (try simp only [Act.put, List.setIfInBounds_toArray, List.set_cons_zero, List.set_cons_succ])
                refine wpAnyH_take (i := 48) (oi := { dst := some 131, op := Op.binOp BinOp.neq 3 (Operand.tmp 124) (Operand.tmp 130) 3, type := 4, pos := "law.go:177", after := #[{ on := 41, ground := Ground.data }, { on := 47, ground := Ground.data }, { on := 38, ground := Ground.guard }], guard := some (38, false) }) (v := ?_) rfl (by kernel_rfl) (by kernel_rfl) (by kernel_rfl) (fun _ _ _ h => h) (Or.inl ⟨by rfl, ?hy48⟩) (by assumption) ?_
                case hy48 => (intro w_ hSw; (try dsimp only at hSw); go_simp; try (with_reducible rfl))
                (try simp only [Act.put, List.setIfInBounds_toArray, List.set_cons_zero, List.set_cons_succ])
                refine wpAnyH_take (i := 49) (oi := { dst := some 132, op := Op.pick (Operand.tmp 121) (Operand.const (Value.bool true)) (Operand.tmp 131), type := 4, pos := "law.go:177", after := #[{ on := 38, ground := Ground.data }, { on := 48, ground := Ground.data }], guard := none }) (v := ?_) rfl (by kernel_rfl) (by kernel_rfl) (by kernel_rfl) (fun _ _ _ h => h) (Or.inl ⟨by rfl, ?hy49⟩) (by assumption) ?_
                case hy49 => (intro w_ hSw; (try dsimp only at hSw); go_simp; try (with_reducible rfl))
                (try simp only [Act.put, List.setIfInBounds_toArray, List.set_cons_zero, List.set_cons_succ])
                refine wpAnyH_take (i := 50) (oi := { dst := some 133, op := Op.move (Operand.tmp 132), type := 4, pos := "law.go:177", after := #[{ on := 49, ground := Ground.data }, { on := 41, ground := Ground.chain }], guard := none }) (v := ?_) rfl (by kernel_rfl) (by kernel_rfl) (by kernel_rfl) (fun _ _ _ h => h) (Or.inl ⟨by rfl, ?hy50⟩) (by assumption) ?_
                case hy50 => (intro w_ hSw; (try dsimp only at hSw); go_simp; try (with_reducible rfl))
                (try simp only [Act.put, List.setIfInBounds_toArray, List.set_cons_zero, List.set_cons_succ])
                refine wpAnyH_take (i := 51) (oi := { dst := some 134, op := Op.move (Operand.tmp 10), type := 26, pos := "law.go:177", after := #[{ on := 50, ground := Ground.guard }], guard := some (50, false) }) (v := ?_) rfl (by kernel_rfl) (by kernel_rfl) (by kernel_rfl) (fun _ _ _ h => h) (Or.inl ⟨by rfl, ?hy51⟩) (by assumption) ?_
                case hy51 => (intro w_ hSw; (try dsimp only at hSw); go_simp; try (with_reducible rfl))
                (try simp only [Act.put, List.setIfInBounds_toArray, List.set_cons_zero, List.set_cons_succ])
                refine wpAnyH_take (i := 52) (oi := { dst := some 135, op := Op.move (Operand.tmp 15), type := 3, pos := "law.go:177", after := #[{ on := 50, ground := Ground.guard }], guard := some (50, false) }) (v := ?_) rfl (by kernel_rfl) (by kernel_rfl) (by kernel_rfl) (fun _ _ _ h => h) (Or.inl ⟨by rfl, ?hy52⟩) (by assumption) ?_
                case hy52 => (intro w_ hSw; (try dsimp only at hSw); go_simp; try (with_reducible rfl))
                (try simp only [Act.put, List.setIfInBounds_toArray, List.set_cons_zero, List.set_cons_succ])
                refine wpAnyH_ready (rs := [53]) (by kernel_rfl) (by simp) ?_
                refine AllReadyH.cons (o := { dst := some 136, op := Op.call { callee := Callee.value (Operand.func 18), args := #[Operand.tmp 134, Operand.tmp 135], argTypes := #[26, 3] }, type := 27, pos := "law.go:177", after := #[{ on := 51, ground := Ground.data }, { on := 52, ground := Ground.data }, { on := 50, ground := Ground.chain }, { on := 50, ground := Ground.guard }], guard := some (50, false) }) rfl (fun K_ hK => ?_) AllReadyH.nil
                go_simp
                (go_at_call 18; (with_reducible refine (HF7.out.split (x := x) (v := v) (L := []) (R := R) (Vs := []) (List.Perm.of_eq (by rw [HE.out]))).mono ?_); rw [HCUT.out]; rintro e w8 ⟨rfl, hF, hK⟩; have HR8 := Aside0.mk (HR7.out.ke hK HG2.out.1 HG2.out.2); have hS8 : w8.cell? ⟨g2, 0, none⟩ = some (.int .i64 x) ∧ w8.cell? ⟨g2, 0, none⟩ = some (.int .i64 x) ∧ w8.cell? ⟨g2, m, none⟩ = some (.int .i64 y1) := ⟨HR8.out.get HX2.out, HR8.out.get HZ2.out, HR8.out.get HW2.out⟩; have HF8 := Aside0.mk hF; clear hF hK)
                first | refine hK.out _ _ ?kp53 (fun hHeld => ?_) | (go_wp2_with fail; refine hK.out _ _ ?kp53 (fun hHeld => ?_))
                case kp53 => exact (by assumption)
                clear hK K_
                (try simp only [Act.put, List.setIfInBounds_toArray, List.set_cons_zero, List.set_cons_succ])
                refine wpAnyH_take (i := 54) (oi := { dst := some 137, op := Op.binOp BinOp.neq 27 (Operand.tmp 136) (Operand.const (Value.int IntKind.i64 0)) 27, type := 4, pos := "law.go:177", after := #[{ on := 53, ground := Ground.data }, { on := 50, ground := Ground.guard }], guard := some (50, false) }) (v := ?_) rfl (by kernel_rfl) (by kernel_rfl) (by kernel_rfl) (fun _ _ _ h => h) (Or.inl ⟨by rfl, ?hy54⟩) (by assumption) ?_
                case hy54 => (intro w_ hSw; (try dsimp only at hSw); go_simp; try (with_reducible rfl))
                (try simp only [Act.put, List.setIfInBounds_toArray, List.set_cons_zero, List.set_cons_succ])
                refine wpAnyH_take (i := 55) (oi := { dst := some 138, op := Op.pick (Operand.tmp 133) (Operand.const (Value.bool true)) (Operand.tmp 137), type := 4, pos := "law.go:177", after := #[{ on := 50, ground := Ground.data }, { on := 54, ground := Ground.data }], guard := none }) (v := ?_) rfl (by kernel_rfl) (by kernel_rfl) (by kernel_rfl) (fun _ _ _ h => h) (Or.inl ⟨by rfl, ?hy55⟩) (by assumption) ?_
                case hy55 => (intro w_ hSw; (try dsimp only at hSw); go_simp; try (with_reducible rfl))
                (try simp only [Act.put, List.setIfInBounds_toArray, List.set_cons_zero, List.set_cons_succ])
                refine wpAnyH_take (i := 56) (oi := { dst := some 139, op := Op.move (Operand.tmp 138), type := 4, pos := "law.go:177", after := #[{ on := 55, ground := Ground.data }, { on := 53, ground := Ground.chain }], guard := none }) (v := ?_) rfl (by kernel_rfl) (by kernel_rfl) (by kernel_rfl) (fun _ _ _ h => h) (Or.inl ⟨by rfl, ?hy56⟩) (by assumption) ?_
                case hy56 => (intro w_ hSw; (try dsimp only at hSw); go_simp; try (with_reducible rfl))
                (try simp only [Act.put, List.setIfInBounds_toArray, List.set_cons_zero, List.set_cons_succ])
                refine wpAnyH_take (i := 57) (oi := { dst := some 140, op := Op.move (Operand.tmp 10), type := 26, pos := "law.go:177", after := #[{ on := 56, ground := Ground.guard }], guard := some (56, false) }) (v := ?_) rfl (by kernel_rfl) (by kernel_rfl) (by kernel_rfl) (fun _ _ _ h => h) (Or.inl ⟨by rfl, ?hy57⟩) (by assumption) ?_
                case hy57 => (intro w_ hSw; (try dsimp only at hSw); go_simp; try (with_reducible rfl))
                (try simp only [Act.put, List.setIfInBounds_toArray, List.set_cons_zero, List.set_cons_succ])
                refine wpAnyH_take (i := 58) (oi := { dst := some 141, op := Op.move (Operand.tmp 15), type := 3, pos := "law.go:177", after := #[{ on := 56, ground := Ground.guard }], guard := some (56, false) }) (v := ?_) rfl (by kernel_rfl) (by kernel_rfl) (by kernel_rfl) (fun _ _ _ h => h) (Or.inl ⟨by rfl, ?hy58⟩) (by assumption) ?_
                case hy58 => (intro w_ hSw; (try dsimp only at hSw); go_simp; try (with_reducible rfl))
                (try simp only [Act.put, List.setIfInBounds_toArray, List.set_cons_zero, List.set_cons_succ])
                refine wpAnyH_take (i := 60) (oi := { dst := some 143, op := Op.move (Operand.tmp 14), type := 22, pos := "law.go:177", after := #[{ on := 56, ground := Ground.guard }], guard := some (56, false) }) (v := ?_) rfl (by kernel_rfl) (by kernel_rfl) (by kernel_rfl) (fun _ _ _ h => h) (Or.inl ⟨by rfl, ?hy60⟩) (by assumption) ?_
                case hy60 => (intro w_ hSw; (try dsimp only at hSw); go_simp; try (with_reducible rfl))
                (try simp only [Act.put, List.setIfInBounds_toArray, List.set_cons_zero, List.set_cons_succ])
                refine wpAnyH_take (i := 61) (oi := { dst := some 144, op := Op.move (Operand.tmp 16), type := 3, pos := "law.go:177", after := #[{ on := 56, ground := Ground.guard }], guard := some (56, false) }) (v := ?_) rfl (by kernel_rfl) (by kernel_rfl) (by kernel_rfl) (fun _ _ _ h => h) (Or.inl ⟨by rfl, ?hy61⟩) (by assumption) ?_
                case hy61 => (intro w_ hSw; (try dsimp only at hSw); go_simp; try (with_reducible rfl))
                (try simp only [Act.put, List.setIfInBounds_toArray, List.set_cons_zero, List.set_cons_succ])
                refine wpAnyH_take (i := 62) (oi := { dst := some 145, op := Op.slice 22 (Operand.tmp 143) (some (Operand.tmp 144)) none none, type := 22, pos := "law.go:177", after := #[{ on := 60, ground := Ground.data }, { on := 61, ground := Ground.data }, { on := 56, ground := Ground.guard }], guard := some (56, false) }) (v := ?_) rfl (by kernel_rfl) (by kernel_rfl) (by kernel_rfl) (fun _ _ _ h => h) (Or.inl ⟨by rfl, ?hy62⟩) (by assumption) ?_
                case hy62 => (intro w_ hSw; (try dsimp only at hSw); go_simp; try (with_reducible rfl))
                (try simp only [Act.put, List.setIfInBounds_toArray, List.set_cons_zero, List.set_cons_succ])
                refine wpAnyH_ready (rs := [59]) (by kernel_rfl) (by simp) ?_
                refine AllReadyH.cons (o := { dst := some 142, op := Op.call { callee := Callee.value (Operand.func 20), args := #[Operand.tmp 140, Operand.tmp 141], argTypes := #[26, 3] }, type := 22, pos := "law.go:177", after := #[{ on := 57, ground := Ground.data }, { on := 58, ground := Ground.data }, { on := 56, ground := Ground.chain }, { on := 56, ground := Ground.guard }], guard := some (56, false) }) rfl (fun K_ hK => ?_) AllReadyH.nil
                go_simp
                (go_at_call 20; (with_reducible refine (HF8.out.rowc hXU HXR).mono ?_); rw [HQ.out]; rintro e w9 ⟨g9, c9, rfl, hc9, hm9, hg9, hr9, hF, hb⟩; have HR9 := Aside0.mk (HR8.out.below hb); have hS9 : w9.cell? ⟨g2, 0, none⟩ = some (.int .i64 x) ∧ w9.cell? ⟨g2, 0, none⟩ = some (.int .i64 x) ∧ w9.cell? ⟨g2, m, none⟩ = some (.int .i64 y1) := ⟨HR9.out.get HX2.out, HR9.out.get HZ2.out, HR9.out.get HW2.out⟩; have HF9 := Aside0.mk hF; have HX9 := Aside0.mk hr9; clear hF hb hr9 hg9 hc9 hm9)
                first | refine hK.out _ _ ?kp59 (fun hHeld => ?_) | (go_wp2_with fail; refine hK.out _ _ ?kp59 (fun hHeld => ?_))
                case kp59 => exact (by assumption)
                clear hK K_
                (try simp only [Act.put, List.setIfInBounds_toArray, List.set_cons_zero, List.set_cons_succ])
                refine wpAnyH_ready (rs := [63]) (by kernel_rfl) (by simp) ?_
                refine AllReadyH.cons (o := { dst := some 146, op := Op.call { callee := Callee.value (Operand.func 19), args := #[Operand.tmp 142, Operand.tmp 145], argTypes := #[22, 22] }, type := 4, pos := "law.go:177", after := #[{ on := 59, ground := Ground.data }, { on := 62, ground := Ground.data }, { on := 59, ground := Ground.chain }, { on := 56, ground := Ground.guard }], guard := some (56, false) }) rfl (fun K_ hK => ?_) AllReadyH.nil
                go_simp
                (go_at_call 19; (with_reducible refine (same_n (n := q) (m := i) (by have h_ := HQ.out; rw [List.length_map]; exact h_) (by exact HKQ.out.2.2.2.2) HX9.out.all (HR9.out.all) HKL.out.1 HKL.out.2.1).mono ?_); rw [hd2]; rintro e wa ⟨rfl, hdd_⟩; have HRa := Aside0.mk (HR9.out.below hdd_.below); have hSa : wa.cell? ⟨g2, 0, none⟩ = some (.int .i64 x) ∧ wa.cell? ⟨g2, 0, none⟩ = some (.int .i64 x) ∧ wa.cell? ⟨g2, m, none⟩ = some (.int .i64 y1) := ⟨HRa.out.get HX2.out, HRa.out.get HZ2.out, HRa.out.get HW2.out⟩; have HFa := Aside0.mk (HF9.out.below hdd_.below); clear hdd_)
                first | refine hK.out _ _ ?kp63 (fun hHeld => ?_) | (go_wp2_with fail; refine hK.out _ _ ?kp63 (fun hHeld => ?_))
                case kp63 => exact (by assumption)
                clear hK K_
                (try simp only [Act.put, List.setIfInBounds_toArray, List.set_cons_zero, List.set_cons_succ])
                refine wpAnyH_take (i := 64) (oi := { dst := some 147, op := Op.unOp UnOp.not 4 (Operand.tmp 146), type := 4, pos := "law.go:177", after := #[{ on := 63, ground := Ground.data }, { on := 56, ground := Ground.guard }], guard := some (56, false) }) (v := ?_) rfl (by kernel_rfl) (by kernel_rfl) (by kernel_rfl) (fun _ _ _ h => h) (Or.inl ⟨by rfl, ?hy64⟩) (by assumption) ?_
                case hy64 => (intro w_ hSw; (try dsimp only at hSw); go_simp; try (with_reducible rfl))
                (try simp only [Act.put, List.setIfInBounds_toArray, List.set_cons_zero, List.set_cons_succ])
                refine wpAnyH_take (i := 65) (oi := { dst := some 148, op := Op.pick (Operand.tmp 139) (Operand.const (Value.bool true)) (Operand.tmp 147), type := 4, pos := "law.go:177", after := #[{ on := 56, ground := Ground.data }, { on := 64, ground := Ground.data }], guard := none }) (v := ?_) rfl (by kernel_rfl) (by kernel_rfl) (by kernel_rfl) (fun _ _ _ h => h) (Or.inl ⟨by rfl, ?hy65⟩) (by assumption) ?_
                case hy65 => (intro w_ hSw; (try dsimp only at hSw); go_simp; try (with_reducible rfl))
                (try simp only [Act.put, List.setIfInBounds_toArray, List.set_cons_zero, List.set_cons_succ])
                refine wpAnyH_take (i := 66) (oi := { dst := some 149, op := Op.move (Operand.tmp 148), type := 4, pos := "law.go:177", after := #[{ on := 65, ground := Ground.data }, { on := 63, ground := Ground.chain }], guard := none }) (v := ?_) rfl (by kernel_rfl) (by kernel_rfl) (by kernel_rfl) (fun _ _ _ h => h) (Or.inl ⟨by rfl, ?hy66⟩) (by assumption) ?_
                case hy66 => (intro w_ hSw; (try dsimp only at hSw); go_simp; try (with_reducible rfl))
                (try simp only [Act.put, List.setIfInBounds_toArray, List.set_cons_zero, List.set_cons_succ])
                refine wpAnyH_take (i := 67) (oi := { dst := some 150, op := Op.move (Operand.tmp 17), type := 3, pos := "law.go:177", after := #[{ on := 66, ground := Ground.guard }], guard := some (66, false) }) (v := ?_) rfl (by kernel_rfl) (by kernel_rfl) (by kernel_rfl) (fun _ _ _ h => h) (Or.inl ⟨by rfl, ?hy67⟩) (by assumption) ?_
                case hy67 => (intro w_ hSw; (try dsimp only at hSw); go_simp; try (with_reducible rfl))
                (try simp only [Act.put, List.setIfInBounds_toArray, List.set_cons_zero, List.set_cons_succ])
                refine wpAnyH_take (i := 68) (oi := { dst := some 151, op := Op.move (Operand.tmp 15), type := 3, pos := "law.go:177", after := #[{ on := 66, ground := Ground.guard }], guard := some (66, false) }) (v := ?_) rfl (by kernel_rfl) (by kernel_rfl) (by kernel_rfl) (fun _ _ _ h => h) (Or.inl ⟨by rfl, ?hy68⟩) (by assumption) ?_
                case hy68 => (intro w_ hSw; (try dsimp only at hSw); go_simp; try (with_reducible rfl))
                (try simp only [Act.put, List.setIfInBounds_toArray, List.set_cons_zero, List.set_cons_succ])
                refine wpAnyH_take (i := 69) (oi := { dst := some 152, op := Op.binOp BinOp.neq 3 (Operand.tmp 150) (Operand.tmp 151) 3, type := 4, pos := "law.go:177", after := #[{ on := 67, ground := Ground.data }, { on := 68, ground := Ground.data }, { on := 66, ground := Ground.guard }], guard := some (66, false) }) (v := ?_) rfl (by kernel_rfl) (by kernel_rfl) (by kernel_rfl) (fun _ _ _ h => h) (Or.inl ⟨by rfl, ?hy69⟩) (by assumption) ?_
                case hy69 => (intro w_ hSw; (try dsimp only at hSw); go_simp; try (with_reducible rfl))
                (try simp only [Act.put, List.setIfInBounds_toArray, List.set_cons_zero, List.set_cons_succ])
                refine wpAnyH_take (i := 70) (oi := { dst := some 153, op := Op.move (Operand.tmp 152), type := 4, pos := "law.go:177", after := #[{ on := 69, ground := Ground.data }, { on := 66, ground := Ground.chain }, { on := 66, ground := Ground.guard }], guard := some (66, false) }) (v := ?_) rfl (by kernel_rfl) (by kernel_rfl) (by kernel_rfl) (fun _ _ _ h => h) (Or.inl ⟨by rfl, ?hy70⟩) (by assumption) ?_
                case hy70 => (intro w_ hSw; (try dsimp only at hSw); go_simp; try (with_reducible rfl))
                (try simp only [Act.put, List.setIfInBounds_toArray, List.set_cons_zero, List.set_cons_succ])
                refine wpAnyH_take (i := 71) (oi := { dst := some 154, op := Op.move (Operand.tmp 10), type := 26, pos := "law.go:177", after := #[{ on := 70, ground := Ground.guard }], guard := some (70, true) }) (v := undef) rfl (by kernel_rfl) (by kernel_rfl) (by kernel_rfl) (fun _ _ _ h => h) (Or.inr ⟨by rfl, rfl⟩) (by assumption) ?_
                (try simp only [Act.put, List.setIfInBounds_toArray, List.set_cons_zero, List.set_cons_succ])
                refine wpAnyH_take (i := 72) (oi := { dst := some 155, op := Op.move (Operand.tmp 17), type := 3, pos := "law.go:177", after := #[{ on := 70, ground := Ground.guard }], guard := some (70, true) }) (v := undef) rfl (by kernel_rfl) (by kernel_rfl) (by kernel_rfl) (fun _ _ _ h => h) (Or.inr ⟨by rfl, rfl⟩) (by assumption) ?_
                (try simp only [Act.put, List.setIfInBounds_toArray, List.set_cons_zero, List.set_cons_succ])
                refine wpAnyH_take (i := 73) (oi := { dst := some 156, op := Op.call { callee := Callee.value (Operand.func 20), args := #[Operand.tmp 154, Operand.tmp 155], argTypes := #[26, 3] }, type := 22, pos := "law.go:177", after := #[{ on := 71, ground := Ground.data }, { on := 72, ground := Ground.data }, { on := 70, ground := Ground.chain }, { on := 70, ground := Ground.guard }], guard := some (70, true) }) (v := undef) rfl (by kernel_rfl) (by kernel_rfl) (by kernel_rfl) (fun _ _ _ h => h) (Or.inr ⟨by rfl, rfl⟩) (by assumption) ?_
                (try simp only [Act.put, List.setIfInBounds_toArray, List.set_cons_zero, List.set_cons_succ])
                refine wpAnyH_take (i := 74) (oi := { dst := some 157, op := Op.move (Operand.tmp 14), type := 22, pos := "law.go:177", after := #[{ on := 70, ground := Ground.guard }], guard := some (70, true) }) (v := undef) rfl (by kernel_rfl) (by kernel_rfl) (by kernel_rfl) (fun _ _ _ h => h) (Or.inr ⟨by rfl, rfl⟩) (by assumption) ?_
                (try simp only [Act.put, List.setIfInBounds_toArray, List.set_cons_zero, List.set_cons_succ])
                refine wpAnyH_take (i := 75) (oi := { dst := some 158, op := Op.move (Operand.tmp 16), type := 3, pos := "law.go:177", after := #[{ on := 70, ground := Ground.guard }], guard := some (70, true) }) (v := undef) rfl (by kernel_rfl) (by kernel_rfl) (by kernel_rfl) (fun _ _ _ h => h) (Or.inr ⟨by rfl, rfl⟩) (by assumption) ?_
                (try simp only [Act.put, List.setIfInBounds_toArray, List.set_cons_zero, List.set_cons_succ])
                refine wpAnyH_take (i := 76) (oi := { dst := some 159, op := Op.slice 22 (Operand.tmp 157) none (some (Operand.tmp 158)) none, type := 22, pos := "law.go:177", after := #[{ on := 74, ground := Ground.data }, { on := 75, ground := Ground.data }, { on := 70, ground := Ground.guard }], guard := some (70, true) }) (v := undef) rfl (by kernel_rfl) (by kernel_rfl) (by kernel_rfl) (fun _ _ _ h => h) (Or.inr ⟨by rfl, rfl⟩) (by assumption) ?_
                (try simp only [Act.put, List.setIfInBounds_toArray, List.set_cons_zero, List.set_cons_succ])
                refine wpAnyH_take (i := 77) (oi := { dst := some 160, op := Op.call { callee := Callee.value (Operand.func 19), args := #[Operand.tmp 156, Operand.tmp 159], argTypes := #[22, 22] }, type := 4, pos := "law.go:177", after := #[{ on := 73, ground := Ground.data }, { on := 76, ground := Ground.data }, { on := 73, ground := Ground.chain }, { on := 70, ground := Ground.guard }], guard := some (70, true) }) (v := undef) rfl (by kernel_rfl) (by kernel_rfl) (by kernel_rfl) (fun _ _ _ h => h) (Or.inr ⟨by rfl, rfl⟩) (by assumption) ?_
                (try simp only [Act.put, List.setIfInBounds_toArray, List.set_cons_zero, List.set_cons_succ])
                refine wpAnyH_take (i := 78) (oi := { dst := some 161, op := Op.unOp UnOp.not 4 (Operand.tmp 160), type := 4, pos := "law.go:177", after := #[{ on := 77, ground := Ground.data }, { on := 70, ground := Ground.guard }], guard := some (70, true) }) (v := undef) rfl (by kernel_rfl) (by kernel_rfl) (by kernel_rfl) (fun _ _ _ h => h) (Or.inr ⟨by rfl, rfl⟩) (by assumption) ?_
                (try simp only [Act.put, List.setIfInBounds_toArray, List.set_cons_zero, List.set_cons_succ])
                refine wpAnyH_take (i := 79) (oi := { dst := some 162, op := Op.pick (Operand.tmp 153) (Operand.tmp 161) (Operand.const (Value.bool false)), type := 4, pos := "law.go:177", after := #[{ on := 70, ground := Ground.data }, { on := 78, ground := Ground.data }, { on := 66, ground := Ground.guard }], guard := some (66, false) }) (v := ?_) rfl (by kernel_rfl) (by kernel_rfl) (by kernel_rfl) (fun _ _ _ h => h) (Or.inl ⟨by rfl, ?hy79⟩) (by assumption) ?_
                case hy79 => (intro w_ hSw; (try dsimp only at hSw); go_simp; try (with_reducible rfl))
                (try simp only [Act.put, List.setIfInBounds_toArray, List.set_cons_zero, List.set_cons_succ])
                refine wpAnyH_take (i := 80) (oi := { dst := some 163, op := Op.pick (Operand.tmp 149) (Operand.const (Value.bool true)) (Operand.tmp 162), type := 4, pos := "law.go:177", after := #[{ on := 66, ground := Ground.data }, { on := 79, ground := Ground.data }], guard := none }) (v := ?_) rfl (by kernel_rfl) (by kernel_rfl) (by kernel_rfl) (fun _ _ _ h => h) (Or.inl ⟨by rfl, ?hy80⟩) (by assumption) ?_
                case hy80 => (intro w_ hSw; (try dsimp only at hSw); go_simp; try (with_reducible rfl))
                (try simp only [Act.put, List.setIfInBounds_toArray, List.set_cons_zero, List.set_cons_succ])
                refine wpAnyH_done (by kernel_rfl) ?_ _
                as_aux_lemma =>
                  clear h1k h2k h3k h4k h5k h6k hkc hkc2 h1m h2m h3m h4m h5m h6m h7m h8m hck hck2 hS5 h9a h9b h9c h9d h9e
                  have HFz : Aside0 (Fm wb wa gs gn i cap [U]) := ⟨by rw [HE.out]; exact HFa.out⟩
                  have HRz := HRa
                  clear HFa HRa
                  have hyU : x ∈ U.map Prod.fst := my0
                  have hxV : x ∈ U.reverse.map Prod.fst := by rw [List.map_reverse]; exact List.mem_reverse.2 hxW
                  have hyV : x ∈ U.reverse.map Prod.fst := by rw [List.map_reverse]; exact List.mem_reverse.2 hyU
                  have hdd := HDD.out
                  go_wp2_with (first
                    | (go_at_call 20; (with_reducible refine (HFz.out.rowc List.mem_cons_self hxW).mono ?_); rw [HUL.out, HKS.out]; rintro e wf ⟨gf, cf, rfl, hcf, hmf, hgf, hrf, hF, hb⟩; have HRf := Aside0.mk (HRz.out.below hb); have HFf := Aside0.mk hF; have HXf := Aside0.mk hrf; clear hF hb hrf hgf hcf hmf HFz HRz)
                    | (go_at_call 19; (refine (same_n (n := i) (m := i) HKQ.out.2.2.2.2 HKQ.out.2.2.2.2 HXf.out.all HRf.out.all HKL.out.2.1 HKL.out.2.1).mono ?_); rw [decide_eq_true (p := ks = ks) rfl]; rintro e wg ⟨rfl, hdd_⟩; have HRg := Aside0.mk (HRf.out.below hdd_.below); have HFg := Aside0.mk (HFf.out.below hdd_.below); clear hdd_ HRf HFf HXf)
                    | (go_at_call 17; (with_reducible refine (HFg.out.turn (W := U) (Vs := []) (List.Perm.refl _) hxW).mono ?_); rintro e wh ⟨⟨vh, rfl⟩, hF, hK⟩; have HRh := Aside0.mk (HRg.out.ke hK HG2.out.1 HG2.out.2); have HFh := Aside0.mk hF; clear hF hK HFg HRg)
                    | (go_at_call 17; (with_reducible refine (HFh.out.turn (W := U.reverse) (Vs := []) (List.Perm.refl _) hyV).mono ?_); rw [List.reverse_reverse]; rintro e wi ⟨⟨vi, rfl⟩, hF, hK⟩; have HRi := Aside0.mk (HRh.out.ke hK HG2.out.1 HG2.out.2); have HFi := Aside0.mk hF; clear hF hK HFh HRh)
                    | (go_at_call 26; (with_reducible refine (HFi.out.add_any hxW HDS.out).mono ?_); rintro e wj ⟨r1, s1, rfl, hF, hK, hrs⟩; have HRj := Aside0.mk (HRi.out.ke hK HG2.out.1 HG2.out.2); have HFj := Aside0.mk hF; have HRS := Aside0.mk hrs; clear hF hK hrs HFi HRi)
                    | (go_at_call 26; (with_reducible refine (HFj.out.add_two HBD.out hyU HDN.out HRS.out).mono ?_); rintro e wk ⟨r2, s2, rfl, hF, hK, hrs⟩; have HRk := Aside0.mk (HRj.out.ke hK HG2.out.1 HG2.out.2); have HFk := Aside0.mk hF; have HRT := Aside0.mk hrs; clear hF hK hrs HFj HRj)
                    | (go_at_call 16; (with_reducible refine (HFk.out.least List.mem_cons_self (by rw [shift_keys]; exact hxW)).mono ?_); rintro e wl ⟨⟨yl, rfl, hy⟩, hF, hK⟩; have HRl := Aside0.mk (HRk.out.ke hK HG2.out.1 HG2.out.2); have HFl := Aside0.mk hF; have HYL := Aside0.mk hy; clear hF hK hy HFk HRk))
                  clear hxV hyV hdd
                  go_loopg [21] (i + 1) (fun kq v21 wq => ∃ (p : Nat), v21 = .int .i64 (p : Int) ∧ Aside0 (p + kq = i + 1 ∧ 0 < kq) ∧ Aside0 (Fm wb wq gs gn i cap [shiftW s2 U]) ∧ Aside0 (RowC wq g2 ks))
                  case atStart => exact ⟨0, rfl, ⟨by omega⟩, HFl, HRl⟩
                  case round =>
                    clear HFl HRl
                    obtain ⟨p, rfl, HP, HF, HRr⟩ := hrel
                    by_cases cp : p < i
                    · obtain ⟨q0, u, vq, kl, mv, hup, hq0, hqi, hval, hymem, hkl, hmv1, hmv2, hkp, hvz⟩ := back_facts HUP.out HF.out HUL.out HYL.out cp
                      have hlt : (p : Int) < (i : Int) := Int.ofNat_lt.2 cp
                      have p0 : (0 : Int) ≤ (p : Int) := Int.natCast_nonneg p
                      have q00 : (0 : Int) ≤ (q0 : Int) := Int.natCast_nonneg q0
                      have q01 : (q0 : Int) < (i : Int) := Int.ofNat_lt.2 hqi
                      have HP2 : Aside0 (p + 1 + (i - p) = i + 1 ∧ 0 < i - p ∧ i - p < gk) := ⟨by have h_ := HP.out; clear hmv1 hmv2; omega⟩
                      have HW1 := Aside0.mk (wr1 p (by have h_ := HN.out; clear hmv1 hmv2; omega))
                      have hcr : wr.cell? ⟨g2, p, none⟩ = some (.int .i64 (q0 : Int)) := HRr.out.get (by rw [← HKS.out]; exact hkp)
                      have tl : decide (vq < mv) = false := decide_eq_false (by omega)
                      have HKL2 := Aside0.mk hkl
                      have HVZ := Aside0.mk hvz
                      have HRV := Aside0.mk ((HRB.out.below HF.out.old).at (j := q0) (by rw [HVL.out]; exact hqi))
                      obtain ⟨a, rfl, hca⟩ := HRV.out
                      have tl2 : mv ≤ vq := hmv1
                      have hksp : ks[p]? = some (q0 : Int) := by rw [← HKS.out]; exact hkp
                      clear hkl hvz HRV hup hkp
                      by_cases ceq : vq = mv
                      · have hpl : decide ((p : Int) < (kl : Int)) = false := decide_eq_false (fun e => Nat.not_lt.2 (hmv2 ceq) (Int.ofNat_lt.1 e))
                        have hpl2 : (kl : Int) ≤ (p : Int) := Int.ofNat_le.2 (hmv2 ceq)
                        have hpl3 : kl ≤ p := hmv2 ceq
                        have hpl4 : decide (p < kl) = false := decide_eq_false (Nat.not_lt.2 hpl3)
                        have ceq2 : (vq == mv) = true := beq_iff_eq.mpr ceq
                        have HKP : Aside0 (ks[p]? = some (q0 : Int)) := ⟨hksp⟩
                        rcases HRT.out with ⟨rfl, rfl, rfl⟩ | rfl
                        · have hvv : vq = vs.getD q0 0 := HVZ.out rfl
                          have HVG : Aside0 (vs[q0]'(by rw [HVL.out]; exact hqi) = vq) := ⟨by rw [hvv, getD_at (by rw [HVL.out]; exact hqi)]⟩
                          clear hvv hca
                          go_wp2_with (first
                            | (go_at_call 25; (with_reducible refine (HF.out.value List.mem_cons_self hval).mono ?_); rintro e wm ⟨rfl, hF, hK⟩; have HRm := Aside0.mk (HRr.out.ke hK HG2.out.1 HG2.out.2); have hcm := HRm.out.get HKP.out; have HFm := Aside0.mk hF; obtain ⟨a_, ea_, hcv0⟩ := (HRB.out.below hF.old).at (j := q0) (by rw [HVL.out]; exact hqi); cases ea_; rw [HVG.out] at hcv0; clear hF hK HF HRr)
                            | (go_at_call 25; (with_reducible refine (HFm.out.value List.mem_cons_self hymem).mono ?_); rintro e wn ⟨rfl, hF, hK⟩; have HRn := Aside0.mk (HRm.out.ke hK HG2.out.1 HG2.out.2); have HFn := Aside0.mk hF; clear hF hK HFm HRm)
                            | (go_at_call 25; (with_reducible refine (HFn.out.value List.mem_cons_self hymem).mono ?_); rintro e wo ⟨rfl, hF, hK⟩; have HRo := Aside0.mk (HRn.out.ke hK HG2.out.1 HG2.out.2); have HFo := Aside0.mk hF; clear hF hK HFn HRn)
                            | (go_at_call 21; (with_reducible refine (HFo.out.place_i List.mem_cons_self HKL2.out).mono ?_); rintro e wp ⟨rfl, hF, hK⟩; have HRp := Aside0.mk (HRo.out.ke hK HG2.out.1 HG2.out.2); have HFp := Aside0.mk hF; clear hF hK HFo HRo))
                          go_roundg (i - p)
                          case measure => exact HP2.out.2.2
                          case rel => exact ⟨p + 1, by first | rw [HW1.out] | rfl, ⟨⟨HP2.out.1, HP2.out.2.1⟩⟩, HFp, HRp⟩
                        · go_wp2_with (first
                            | (go_at_call 25; (with_reducible refine (HF.out.value List.mem_cons_self hval).mono ?_); rintro e wm ⟨rfl, hF, hK⟩; have HRm := Aside0.mk (HRr.out.ke hK HG2.out.1 HG2.out.2); have hcm := HRm.out.get HKP.out; have HFm := Aside0.mk hF; clear hF hK HF HRr)
                            | (go_at_call 25; (with_reducible refine (HFm.out.value List.mem_cons_self hymem).mono ?_); rintro e wn ⟨rfl, hF, hK⟩; have HRn := Aside0.mk (HRm.out.ke hK HG2.out.1 HG2.out.2); have HFn := Aside0.mk hF; clear hF hK HFm HRm)
                            | (go_at_call 25; (with_reducible refine (HFn.out.value List.mem_cons_self hymem).mono ?_); rintro e wo ⟨rfl, hF, hK⟩; have HRo := Aside0.mk (HRn.out.ke hK HG2.out.1 HG2.out.2); have HFo := Aside0.mk hF; clear hF hK HFn HRn)
                            | (go_at_call 21; (with_reducible refine (HFo.out.place_i List.mem_cons_self HKL2.out).mono ?_); rintro e wp ⟨rfl, hF, hK⟩; have HRp := Aside0.mk (HRo.out.ke hK HG2.out.1 HG2.out.2); have HFp := Aside0.mk hF; clear hF hK HFo HRo))
                          go_roundg (i - p)
                          case measure => exact HP2.out.2.2
                          case rel => exact ⟨p + 1, by first | rw [HW1.out] | rfl, ⟨⟨HP2.out.1, HP2.out.2.1⟩⟩, HFp, HRp⟩
                      · have ceq2 : (vq == mv) = false := beq_eq_false_iff_ne.mpr ceq
                        have HKP : Aside0 (ks[p]? = some (q0 : Int)) := ⟨hksp⟩
                        rcases HRT.out with ⟨rfl, rfl, rfl⟩ | rfl
                        · have hvv : vq = vs.getD q0 0 := HVZ.out rfl
                          have HVG : Aside0 (vs[q0]'(by rw [HVL.out]; exact hqi) = vq) := ⟨by rw [hvv, getD_at (by rw [HVL.out]; exact hqi)]⟩
                          clear hvv hca
                          go_wp2_with (first
                            | (go_at_call 25; (with_reducible refine (HF.out.value List.mem_cons_self hval).mono ?_); rintro e wm ⟨rfl, hF, hK⟩; have HRm := Aside0.mk (HRr.out.ke hK HG2.out.1 HG2.out.2); have hcm := HRm.out.get HKP.out; have HFm := Aside0.mk hF; obtain ⟨a_, ea_, hcv0⟩ := (HRB.out.below hF.old).at (j := q0) (by rw [HVL.out]; exact hqi); cases ea_; rw [HVG.out] at hcv0; clear hF hK HF HRr)
                            | (go_at_call 25; (with_reducible refine (HFm.out.value List.mem_cons_self hymem).mono ?_); rintro e wn ⟨rfl, hF, hK⟩; have HRn := Aside0.mk (HRm.out.ke hK HG2.out.1 HG2.out.2); have HFn := Aside0.mk hF; clear hF hK HFm HRm)
                            | (go_at_call 25; (with_reducible refine (HFn.out.value List.mem_cons_self hymem).mono ?_); rintro e wo ⟨rfl, hF, hK⟩; have HRo := Aside0.mk (HRn.out.ke hK HG2.out.1 HG2.out.2); have HFo := Aside0.mk hF; clear hF hK HFn HRn)
                            | (go_at_call 21; (with_reducible refine (HFo.out.place_i List.mem_cons_self HKL2.out).mono ?_); rintro e wp ⟨rfl, hF, hK⟩; have HRp := Aside0.mk (HRo.out.ke hK HG2.out.1 HG2.out.2); have HFp := Aside0.mk hF; clear hF hK HFo HRo))
                          go_roundg (i - p)
                          case measure => exact HP2.out.2.2
                          case rel => exact ⟨p + 1, by first | rw [HW1.out] | rfl, ⟨⟨HP2.out.1, HP2.out.2.1⟩⟩, HFo, HRo⟩
                        · go_wp2_with (first
                            | (go_at_call 25; (with_reducible refine (HF.out.value List.mem_cons_self hval).mono ?_); rintro e wm ⟨rfl, hF, hK⟩; have HRm := Aside0.mk (HRr.out.ke hK HG2.out.1 HG2.out.2); have hcm := HRm.out.get HKP.out; have HFm := Aside0.mk hF; clear hF hK HF HRr)
                            | (go_at_call 25; (with_reducible refine (HFm.out.value List.mem_cons_self hymem).mono ?_); rintro e wn ⟨rfl, hF, hK⟩; have HRn := Aside0.mk (HRm.out.ke hK HG2.out.1 HG2.out.2); have HFn := Aside0.mk hF; clear hF hK HFm HRm)
                            | (go_at_call 25; (with_reducible refine (HFn.out.value List.mem_cons_self hymem).mono ?_); rintro e wo ⟨rfl, hF, hK⟩; have HRo := Aside0.mk (HRn.out.ke hK HG2.out.1 HG2.out.2); have HFo := Aside0.mk hF; clear hF hK HFn HRn)
                            | (go_at_call 21; (with_reducible refine (HFo.out.place_i List.mem_cons_self HKL2.out).mono ?_); rintro e wp ⟨rfl, hF, hK⟩; have HRp := Aside0.mk (HRo.out.ke hK HG2.out.1 HG2.out.2); have HFp := Aside0.mk hF; clear hF hK HFo HRo))
                          go_roundg (i - p)
                          case measure => exact HP2.out.2.2
                          case rel => exact ⟨p + 1, by first | rw [HW1.out] | rfl, ⟨⟨HP2.out.1, HP2.out.2.1⟩⟩, HFo, HRo⟩
                    · obtain rfl : p = i := by have h_ := HP.out; omega
                      have hge : decide ((p : Int) < (p : Int)) = false := decide_eq_false (Int.lt_irrefl _)
                      have HSL : Aside0 ((shiftW s2 U).length = p) := ⟨by unfold shiftW; rw [List.length_map]; exact HUL.out⟩
                      have HSK : Aside0 ((shiftW s2 U).map Prod.fst = ks) := ⟨by rw [shift_keys]; exact HKS.out⟩
                      have hxS : x ∈ (shiftW s2 U).map Prod.fst := by rw [shift_keys]; exact hxW
                      rcases HRS.out with ⟨rfl, _⟩ | ⟨rfl, _, _⟩
                      all_goals
                        go_wp2_with (first
                          | (go_at_call 20; (with_reducible refine (HF.out.rowc List.mem_cons_self hxS).mono ?_); rw [HSL.out, HSK.out]; rintro e wf ⟨gf, cf, rfl, hcf, hmf, hgf, hrf, hF, hb⟩; have HRf := Aside0.mk (HRr.out.below hb); have HFf := Aside0.mk hF; have HXf := Aside0.mk hrf; clear hF hb hrf hgf hcf hmf HF HRr)
                          | (go_at_call 19; (with_reducible refine (same_n (n := p) (m := p) HKQ.out.2.2.2.2 HKQ.out.2.2.2.2 HXf.out.all HRf.out.all HKL.out.2.1 HKL.out.2.1).mono ?_); rw [decide_eq_true (p := ks = ks) rfl]; rintro e wg ⟨rfl, hdd_⟩; have HFg := Aside0.mk (HFf.out.below hdd_.below); clear hdd_ HRf HFf HXf))
                        go_ret
                        exact ⟨rfl, HB1.out.trans (HFg.out.old.mono HB1.out.size)⟩
            · as_aux_lemma =>
                have hLU : L ∈ [L, (x, v) :: R] := List.mem_cons_self
                have hXU : (x, v) :: R ∈ [L, (x, v) :: R] := List.mem_cons_of_mem _ List.mem_cons_self
                have hLn : L ≠ [] := fun e => by have h_ := HKK.out; rw [e] at h_; simp at h_; omega
                have HCUT : Aside0 (cutL L ((x, v) :: R) [] = [L, (x, v) :: R]) := ⟨by unfold cutL; rw [if_neg hLn]; rfl⟩
                have hyk : (L.map Prod.fst)[0]? = some y0 := by rw [← HTK.out, List.getElem?_take, if_pos hkp]; exact HZ2.out
                have hYL : y0 ∈ L.map Prod.fst := List.mem_of_getElem? hyk
                have hyx : y0 ≠ x := fun e => by
                  have h_ := HND.out
                  rw [HE.out, List.map_append] at h_
                  exact (List.nodup_append.1 h_).2.2 y0 hYL x HXR e
                have hyx1 : (y0 != x) = true := bne_iff_ne.mpr hyx
                have hyx2 : (y0 == x) = false := beq_eq_false_iff_ne.mpr hyx
                have hd1 : decide (L.map Prod.fst = ks.take k) = true := decide_eq_true HTK.out.symm
                refine wp_region_held_drew (S := (fun W_ => W_.cell? ⟨g2, k, none⟩ = some (.int .i64 x) ∧ W_.cell? ⟨g2, 0, none⟩ = some (.int .i64 y0) ∧ W_.cell? ⟨g2, m, none⟩ = some (.int .i64 y1))) (by kernel_rfl) (show _ from hS5) (fun hHeld => ?_)
                refine wpAnyH_take (i := 0) (oi := { dst := some 83, op := Op.move (Operand.tmp 14), type := 22, pos := "law.go:177", after := #[], guard := none }) (v := ?_) rfl (by kernel_rfl) (by kernel_rfl) (by kernel_rfl) (fun _ _ _ h => h) (Or.inl ⟨by rfl, ?hy0⟩) (by assumption) ?_
                case hy0 => (intro w_ hSw; (try dsimp only at hSw); go_simp; try (with_reducible rfl))
                (try simp only [Act.put, List.setIfInBounds_toArray, List.set_cons_zero, List.set_cons_succ])
                refine wpAnyH_take (i := 1) (oi := { dst := some 84, op := Op.call { callee := Callee.builtin Builtin.len, args := #[Operand.tmp 83], argTypes := #[22] }, type := 3, pos := "law.go:177", after := #[{ on := 0, ground := Ground.data }], guard := none }) (v := ?_) rfl (by kernel_rfl) (by kernel_rfl) (by kernel_rfl) (fun _ _ _ h => h) (Or.inl ⟨by rfl, ?hy1⟩) (by assumption) ?_
                case hy1 => (intro w_ hSw; (try dsimp only at hSw); go_simp; try (with_reducible rfl))
                (try simp only [Act.put, List.setIfInBounds_toArray, List.set_cons_zero, List.set_cons_succ])
                refine wpAnyH_take (i := 2) (oi := { dst := some 85, op := Op.move (Operand.tmp 0), type := 24, pos := "law.go:177", after := #[], guard := none }) (v := ?_) rfl (by kernel_rfl) (by kernel_rfl) (by kernel_rfl) (fun _ _ _ h => h) (Or.inl ⟨by rfl, ?hy2⟩) (by assumption) ?_
                case hy2 => (intro w_ hSw; (try dsimp only at hSw); go_simp; try (with_reducible rfl))
                (try simp only [Act.put, List.setIfInBounds_toArray, List.set_cons_zero, List.set_cons_succ])
                refine wpAnyH_take (i := 3) (oi := { dst := some 86, op := Op.call { callee := Callee.builtin Builtin.len, args := #[Operand.tmp 85], argTypes := #[24] }, type := 3, pos := "law.go:177", after := #[{ on := 2, ground := Ground.data }], guard := none }) (v := ?_) rfl (by kernel_rfl) (by kernel_rfl) (by kernel_rfl) (fun _ _ _ h => h) (Or.inl ⟨by rfl, ?hy3⟩) (by assumption) ?_
                case hy3 => (intro w_ hSw; (try dsimp only at hSw); go_simp; try (with_reducible rfl))
                (try simp only [Act.put, List.setIfInBounds_toArray, List.set_cons_zero, List.set_cons_succ])
                refine wpAnyH_take (i := 4) (oi := { dst := some 87, op := Op.binOp BinOp.neq 3 (Operand.tmp 84) (Operand.tmp 86) 3, type := 4, pos := "law.go:177", after := #[{ on := 1, ground := Ground.data }, { on := 3, ground := Ground.data }], guard := none }) (v := ?_) rfl (by kernel_rfl) (by kernel_rfl) (by kernel_rfl) (fun _ _ _ h => h) (Or.inl ⟨by rfl, ?hy4⟩) (by assumption) ?_
                case hy4 => (intro w_ hSw; (try dsimp only at hSw); go_simp; try (with_reducible rfl))
                (try simp only [Act.put, List.setIfInBounds_toArray, List.set_cons_zero, List.set_cons_succ])
                refine wpAnyH_take (i := 5) (oi := { dst := some 88, op := Op.move (Operand.tmp 87), type := 4, pos := "law.go:177", after := #[{ on := 4, ground := Ground.data }], guard := none }) (v := ?_) rfl (by kernel_rfl) (by kernel_rfl) (by kernel_rfl) (fun _ _ _ h => h) (Or.inl ⟨by rfl, ?hy5⟩) (by assumption) ?_
                case hy5 => (intro w_ hSw; (try dsimp only at hSw); go_simp; try (with_reducible rfl))
                (try simp only [Act.put, List.setIfInBounds_toArray, List.set_cons_zero, List.set_cons_succ])
                refine wpAnyH_take (i := 6) (oi := { dst := some 89, op := Op.move (Operand.tmp 16), type := 3, pos := "law.go:177", after := #[{ on := 5, ground := Ground.guard }], guard := some (5, false) }) (v := ?_) rfl (by kernel_rfl) (by kernel_rfl) (by kernel_rfl) (fun _ _ _ h => h) (Or.inl ⟨by rfl, ?hy6⟩) (by assumption) ?_
                case hy6 => (intro w_ hSw; (try dsimp only at hSw); go_simp; try (with_reducible rfl))
                (try simp only [Act.put, List.setIfInBounds_toArray, List.set_cons_zero, List.set_cons_succ])
                refine wpAnyH_take (i := 7) (oi := { dst := some 90, op := Op.binOp BinOp.lss 3 (Operand.tmp 89) (Operand.const (Value.int IntKind.i64 0)) 3, type := 4, pos := "law.go:177", after := #[{ on := 6, ground := Ground.data }, { on := 5, ground := Ground.guard }], guard := some (5, false) }) (v := ?_) rfl (by kernel_rfl) (by kernel_rfl) (by kernel_rfl) (fun _ _ _ h => h) (Or.inl ⟨by rfl, ?hy7⟩) (by assumption) ?_
                case hy7 => (intro w_ hSw; (try dsimp only at hSw); go_simp; try (with_reducible rfl))
                (try simp only [Act.put, List.setIfInBounds_toArray, List.set_cons_zero, List.set_cons_succ])
                refine wpAnyH_take (i := 8) (oi := { dst := some 91, op := Op.pick (Operand.tmp 88) (Operand.const (Value.bool true)) (Operand.tmp 90), type := 4, pos := "law.go:177", after := #[{ on := 5, ground := Ground.data }, { on := 7, ground := Ground.data }], guard := none }) (v := ?_) rfl (by kernel_rfl) (by kernel_rfl) (by kernel_rfl) (fun _ _ _ h => h) (Or.inl ⟨by rfl, ?hy8⟩) (by assumption) ?_
                case hy8 => (intro w_ hSw; (try dsimp only at hSw); go_simp; try (with_reducible rfl))
                (try simp only [Act.put, List.setIfInBounds_toArray, List.set_cons_zero, List.set_cons_succ])
                refine wpAnyH_take (i := 9) (oi := { dst := some 92, op := Op.move (Operand.tmp 91), type := 4, pos := "law.go:177", after := #[{ on := 8, ground := Ground.data }, { on := 5, ground := Ground.chain }], guard := none }) (v := ?_) rfl (by kernel_rfl) (by kernel_rfl) (by kernel_rfl) (fun _ _ _ h => h) (Or.inl ⟨by rfl, ?hy9⟩) (by assumption) ?_
                case hy9 => (intro w_ hSw; (try dsimp only at hSw); go_simp; try (with_reducible rfl))
                (try simp only [Act.put, List.setIfInBounds_toArray, List.set_cons_zero, List.set_cons_succ])
                refine wpAnyH_take (i := 10) (oi := { dst := some 93, op := Op.move (Operand.tmp 16), type := 3, pos := "law.go:177", after := #[{ on := 9, ground := Ground.guard }], guard := some (9, false) }) (v := ?_) rfl (by kernel_rfl) (by kernel_rfl) (by kernel_rfl) (fun _ _ _ h => h) (Or.inl ⟨by rfl, ?hy10⟩) (by assumption) ?_
                case hy10 => (intro w_ hSw; (try dsimp only at hSw); go_simp; try (with_reducible rfl))
                (try simp only [Act.put, List.setIfInBounds_toArray, List.set_cons_zero, List.set_cons_succ])
                refine wpAnyH_take (i := 11) (oi := { dst := some 94, op := Op.move (Operand.tmp 14), type := 22, pos := "law.go:177", after := #[{ on := 9, ground := Ground.guard }], guard := some (9, false) }) (v := ?_) rfl (by kernel_rfl) (by kernel_rfl) (by kernel_rfl) (fun _ _ _ h => h) (Or.inl ⟨by rfl, ?hy11⟩) (by assumption) ?_
                case hy11 => (intro w_ hSw; (try dsimp only at hSw); go_simp; try (with_reducible rfl))
                (try simp only [Act.put, List.setIfInBounds_toArray, List.set_cons_zero, List.set_cons_succ])
                refine wpAnyH_take (i := 12) (oi := { dst := some 95, op := Op.call { callee := Callee.builtin Builtin.len, args := #[Operand.tmp 94], argTypes := #[22] }, type := 3, pos := "law.go:177", after := #[{ on := 11, ground := Ground.data }, { on := 9, ground := Ground.guard }], guard := some (9, false) }) (v := ?_) rfl (by kernel_rfl) (by kernel_rfl) (by kernel_rfl) (fun _ _ _ h => h) (Or.inl ⟨by rfl, ?hy12⟩) (by assumption) ?_
                case hy12 => (intro w_ hSw; (try dsimp only at hSw); go_simp; try (with_reducible rfl))
                (try simp only [Act.put, List.setIfInBounds_toArray, List.set_cons_zero, List.set_cons_succ])
                refine wpAnyH_take (i := 13) (oi := { dst := some 96, op := Op.binOp BinOp.geq 3 (Operand.tmp 93) (Operand.tmp 95) 3, type := 4, pos := "law.go:177", after := #[{ on := 10, ground := Ground.data }, { on := 12, ground := Ground.data }, { on := 9, ground := Ground.guard }], guard := some (9, false) }) (v := ?_) rfl (by kernel_rfl) (by kernel_rfl) (by kernel_rfl) (fun _ _ _ h => h) (Or.inl ⟨by rfl, ?hy13⟩) (by assumption) ?_
                case hy13 => (intro w_ hSw; (try dsimp only at hSw); go_simp; try (with_reducible rfl))
                (try simp only [Act.put, List.setIfInBounds_toArray, List.set_cons_zero, List.set_cons_succ])
                refine wpAnyH_take (i := 14) (oi := { dst := some 97, op := Op.pick (Operand.tmp 92) (Operand.const (Value.bool true)) (Operand.tmp 96), type := 4, pos := "law.go:177", after := #[{ on := 9, ground := Ground.data }, { on := 13, ground := Ground.data }], guard := none }) (v := ?_) rfl (by kernel_rfl) (by kernel_rfl) (by kernel_rfl) (fun _ _ _ h => h) (Or.inl ⟨by rfl, ?hy14⟩) (by assumption) ?_
                case hy14 => (intro w_ hSw; (try dsimp only at hSw); go_simp; try (with_reducible rfl))
                (try simp only [Act.put, List.setIfInBounds_toArray, List.set_cons_zero, List.set_cons_succ])
                refine wpAnyH_take (i := 15) (oi := { dst := some 98, op := Op.move (Operand.tmp 97), type := 4, pos := "law.go:177", after := #[{ on := 14, ground := Ground.data }, { on := 9, ground := Ground.chain }], guard := none }) (v := ?_) rfl (by kernel_rfl) (by kernel_rfl) (by kernel_rfl) (fun _ _ _ h => h) (Or.inl ⟨by rfl, ?hy15⟩) (by assumption) ?_
                case hy15 => (intro w_ hSw; (try dsimp only at hSw); go_simp; try (with_reducible rfl))
                (try simp only [Act.put, List.setIfInBounds_toArray, List.set_cons_zero, List.set_cons_succ])
                refine wpAnyH_take (i := 16) (oi := { dst := some 99, op := Op.move (Operand.tmp 14), type := 22, pos := "law.go:177", after := #[{ on := 15, ground := Ground.guard }], guard := some (15, false) }) (v := ?_) rfl (by kernel_rfl) (by kernel_rfl) (by kernel_rfl) (fun _ _ _ h => h) (Or.inl ⟨by rfl, ?hy16⟩) (by assumption) ?_
                case hy16 => (intro w_ hSw; (try dsimp only at hSw); go_simp; try (with_reducible rfl))
                (try simp only [Act.put, List.setIfInBounds_toArray, List.set_cons_zero, List.set_cons_succ])
                refine wpAnyH_take (i := 17) (oi := { dst := some 100, op := Op.move (Operand.tmp 16), type := 3, pos := "law.go:177", after := #[{ on := 15, ground := Ground.guard }], guard := some (15, false) }) (v := ?_) rfl (by kernel_rfl) (by kernel_rfl) (by kernel_rfl) (fun _ _ _ h => h) (Or.inl ⟨by rfl, ?hy17⟩) (by assumption) ?_
                case hy17 => (intro w_ hSw; (try dsimp only at hSw); go_simp; try (with_reducible rfl))
                (try simp only [Act.put, List.setIfInBounds_toArray, List.set_cons_zero, List.set_cons_succ])
                refine wpAnyH_take (i := 18) (oi := { dst := some 101, op := Op.indexAddr 22 (Operand.tmp 99) (Operand.tmp 100), type := 0, pos := "law.go:177", after := #[{ on := 16, ground := Ground.data }, { on := 17, ground := Ground.data }, { on := 15, ground := Ground.guard }], guard := some (15, false) }) (v := ?_) rfl (by kernel_rfl) (by kernel_rfl) (by kernel_rfl) (fun _ _ _ h => h) (Or.inl ⟨by rfl, ?hy18⟩) (by assumption) ?_
                case hy18 => (intro w_ hSw; (try dsimp only at hSw); go_simp; try (with_reducible rfl))
                (try simp only [Act.put, List.setIfInBounds_toArray, List.set_cons_zero, List.set_cons_succ])
                refine wpAnyH_take (i := 19) (oi := { dst := some 102, op := Op.load 3 (Operand.tmp 101), type := 3, pos := "law.go:177", after := #[{ on := 18, ground := Ground.data }, { on := 15, ground := Ground.guard }], guard := some (15, false) }) (v := ?_) rfl (by kernel_rfl) (by kernel_rfl) (by kernel_rfl) (fun _ _ _ h => h) (Or.inl ⟨by rfl, ?hy19⟩) (by assumption) ?_
                case hy19 => (intro w_ hSw; (try dsimp only at hSw); go_simp; try (with_reducible rfl))
                (try simp only [Act.put, List.setIfInBounds_toArray, List.set_cons_zero, List.set_cons_succ])
                refine wpAnyH_take (i := 20) (oi := { dst := some 103, op := Op.move (Operand.tmp 15), type := 3, pos := "law.go:177", after := #[{ on := 15, ground := Ground.guard }], guard := some (15, false) }) (v := ?_) rfl (by kernel_rfl) (by kernel_rfl) (by kernel_rfl) (fun _ _ _ h => h) (Or.inl ⟨by rfl, ?hy20⟩) (by assumption) ?_
                case hy20 => (intro w_ hSw; (try dsimp only at hSw); go_simp; try (with_reducible rfl))
                (try simp only [Act.put, List.setIfInBounds_toArray, List.set_cons_zero, List.set_cons_succ])
                refine wpAnyH_take (i := 21) (oi := { dst := some 104, op := Op.binOp BinOp.neq 3 (Operand.tmp 102) (Operand.tmp 103) 3, type := 4, pos := "law.go:177", after := #[{ on := 19, ground := Ground.data }, { on := 20, ground := Ground.data }, { on := 15, ground := Ground.guard }], guard := some (15, false) }) (v := ?_) rfl (by kernel_rfl) (by kernel_rfl) (by kernel_rfl) (fun _ _ _ h => h) (Or.inl ⟨by rfl, ?hy21⟩) (by assumption) ?_
                case hy21 => (intro w_ hSw; (try dsimp only at hSw); go_simp; try (with_reducible rfl))
                (try simp only [Act.put, List.setIfInBounds_toArray, List.set_cons_zero, List.set_cons_succ])
                refine wpAnyH_take (i := 22) (oi := { dst := some 105, op := Op.pick (Operand.tmp 98) (Operand.const (Value.bool true)) (Operand.tmp 104), type := 4, pos := "law.go:177", after := #[{ on := 15, ground := Ground.data }, { on := 21, ground := Ground.data }], guard := none }) (v := ?_) rfl (by kernel_rfl) (by kernel_rfl) (by kernel_rfl) (fun _ _ _ h => h) (Or.inl ⟨by rfl, ?hy22⟩) (by assumption) ?_
                case hy22 => (intro w_ hSw; (try dsimp only at hSw); go_simp; try (with_reducible rfl))
                (try simp only [Act.put, List.setIfInBounds_toArray, List.set_cons_zero, List.set_cons_succ])
                refine wpAnyH_take (i := 23) (oi := { dst := some 106, op := Op.move (Operand.tmp 105), type := 4, pos := "law.go:177", after := #[{ on := 22, ground := Ground.data }, { on := 15, ground := Ground.chain }], guard := none }) (v := ?_) rfl (by kernel_rfl) (by kernel_rfl) (by kernel_rfl) (fun _ _ _ h => h) (Or.inl ⟨by rfl, ?hy23⟩) (by assumption) ?_
                case hy23 => (intro w_ hSw; (try dsimp only at hSw); go_simp; try (with_reducible rfl))
                (try simp only [Act.put, List.setIfInBounds_toArray, List.set_cons_zero, List.set_cons_succ])
                refine wpAnyH_take (i := 24) (oi := { dst := some 107, op := Op.move (Operand.tmp 17), type := 3, pos := "law.go:177", after := #[{ on := 23, ground := Ground.guard }], guard := some (23, false) }) (v := ?_) rfl (by kernel_rfl) (by kernel_rfl) (by kernel_rfl) (fun _ _ _ h => h) (Or.inl ⟨by rfl, ?hy24⟩) (by assumption) ?_
                case hy24 => (intro w_ hSw; (try dsimp only at hSw); go_simp; try (with_reducible rfl))
                (try simp only [Act.put, List.setIfInBounds_toArray, List.set_cons_zero, List.set_cons_succ])
                refine wpAnyH_take (i := 25) (oi := { dst := some 108, op := Op.move (Operand.tmp 14), type := 22, pos := "law.go:177", after := #[{ on := 23, ground := Ground.guard }], guard := some (23, false) }) (v := ?_) rfl (by kernel_rfl) (by kernel_rfl) (by kernel_rfl) (fun _ _ _ h => h) (Or.inl ⟨by rfl, ?hy25⟩) (by assumption) ?_
                case hy25 => (intro w_ hSw; (try dsimp only at hSw); go_simp; try (with_reducible rfl))
                (try simp only [Act.put, List.setIfInBounds_toArray, List.set_cons_zero, List.set_cons_succ])
                refine wpAnyH_take (i := 26) (oi := { dst := some 109, op := Op.indexAddr 22 (Operand.tmp 108) (Operand.const (Value.int IntKind.i64 0)), type := 0, pos := "law.go:177", after := #[{ on := 25, ground := Ground.data }, { on := 23, ground := Ground.guard }], guard := some (23, false) }) (v := ?_) rfl (by kernel_rfl) (by kernel_rfl) (by kernel_rfl) (fun _ _ _ h => h) (Or.inl ⟨by rfl, ?hy26⟩) (by assumption) ?_
                case hy26 => (intro w_ hSw; (try dsimp only at hSw); go_simp; try (with_reducible rfl))
                (try simp only [Act.put, List.setIfInBounds_toArray, List.set_cons_zero, List.set_cons_succ])
                refine wpAnyH_take (i := 27) (oi := { dst := some 110, op := Op.load 3 (Operand.tmp 109), type := 3, pos := "law.go:177", after := #[{ on := 26, ground := Ground.data }, { on := 23, ground := Ground.guard }], guard := some (23, false) }) (v := ?_) rfl (by kernel_rfl) (by kernel_rfl) (by kernel_rfl) (fun _ _ _ h => h) (Or.inl ⟨by rfl, ?hy27⟩) (by assumption) ?_
                case hy27 => (intro w_ hSw; (try dsimp only at hSw); go_simp; try (with_reducible rfl))
                (try simp only [Act.put, List.setIfInBounds_toArray, List.set_cons_zero, List.set_cons_succ])
                refine wpAnyH_take (i := 28) (oi := { dst := some 111, op := Op.binOp BinOp.neq 3 (Operand.tmp 107) (Operand.tmp 110) 3, type := 4, pos := "law.go:177", after := #[{ on := 24, ground := Ground.data }, { on := 27, ground := Ground.data }, { on := 23, ground := Ground.guard }], guard := some (23, false) }) (v := ?_) rfl (by kernel_rfl) (by kernel_rfl) (by kernel_rfl) (fun _ _ _ h => h) (Or.inl ⟨by rfl, ?hy28⟩) (by assumption) ?_
                case hy28 => (intro w_ hSw; (try dsimp only at hSw); go_simp; try (with_reducible rfl))
                (try simp only [Act.put, List.setIfInBounds_toArray, List.set_cons_zero, List.set_cons_succ])
                refine wpAnyH_take (i := 29) (oi := { dst := some 112, op := Op.pick (Operand.tmp 106) (Operand.const (Value.bool true)) (Operand.tmp 111), type := 4, pos := "law.go:177", after := #[{ on := 23, ground := Ground.data }, { on := 28, ground := Ground.data }], guard := none }) (v := ?_) rfl (by kernel_rfl) (by kernel_rfl) (by kernel_rfl) (fun _ _ _ h => h) (Or.inl ⟨by rfl, ?hy29⟩) (by assumption) ?_
                case hy29 => (intro w_ hSw; (try dsimp only at hSw); go_simp; try (with_reducible rfl))
                (try simp only [Act.put, List.setIfInBounds_toArray, List.set_cons_zero, List.set_cons_succ])
                refine wpAnyH_take (i := 30) (oi := { dst := some 113, op := Op.move (Operand.tmp 112), type := 4, pos := "law.go:177", after := #[{ on := 29, ground := Ground.data }, { on := 23, ground := Ground.chain }], guard := none }) (v := ?_) rfl (by kernel_rfl) (by kernel_rfl) (by kernel_rfl) (fun _ _ _ h => h) (Or.inl ⟨by rfl, ?hy30⟩) (by assumption) ?_
                case hy30 => (intro w_ hSw; (try dsimp only at hSw); go_simp; try (with_reducible rfl))
                (try simp only [Act.put, List.setIfInBounds_toArray, List.set_cons_zero, List.set_cons_succ])
                refine wpAnyH_take (i := 31) (oi := { dst := some 114, op := Op.move (Operand.tmp 10), type := 26, pos := "law.go:177", after := #[{ on := 30, ground := Ground.guard }], guard := some (30, false) }) (v := ?_) rfl (by kernel_rfl) (by kernel_rfl) (by kernel_rfl) (fun _ _ _ h => h) (Or.inl ⟨by rfl, ?hy31⟩) (by assumption) ?_
                case hy31 => (intro w_ hSw; (try dsimp only at hSw); go_simp; try (with_reducible rfl))
                (try simp only [Act.put, List.setIfInBounds_toArray, List.set_cons_zero, List.set_cons_succ])
                refine wpAnyH_take (i := 32) (oi := { dst := some 115, op := Op.move (Operand.tmp 15), type := 3, pos := "law.go:177", after := #[{ on := 30, ground := Ground.guard }], guard := some (30, false) }) (v := ?_) rfl (by kernel_rfl) (by kernel_rfl) (by kernel_rfl) (fun _ _ _ h => h) (Or.inl ⟨by rfl, ?hy32⟩) (by assumption) ?_
                case hy32 => (intro w_ hSw; (try dsimp only at hSw); go_simp; try (with_reducible rfl))
                (try simp only [Act.put, List.setIfInBounds_toArray, List.set_cons_zero, List.set_cons_succ])
                refine wpAnyH_take (i := 33) (oi := { dst := some 116, op := Op.move (Operand.tmp 16), type := 3, pos := "law.go:177", after := #[{ on := 30, ground := Ground.guard }], guard := some (30, false) }) (v := ?_) rfl (by kernel_rfl) (by kernel_rfl) (by kernel_rfl) (fun _ _ _ h => h) (Or.inl ⟨by rfl, ?hy33⟩) (by assumption) ?_
                case hy33 => (intro w_ hSw; (try dsimp only at hSw); go_simp; try (with_reducible rfl))
                (try simp only [Act.put, List.setIfInBounds_toArray, List.set_cons_zero, List.set_cons_succ])
                refine wpAnyH_take (i := 35) (oi := { dst := some 118, op := Op.move (Operand.tmp 15), type := 3, pos := "law.go:177", after := #[{ on := 30, ground := Ground.guard }], guard := some (30, false) }) (v := ?_) rfl (by kernel_rfl) (by kernel_rfl) (by kernel_rfl) (fun _ _ _ h => h) (Or.inl ⟨by rfl, ?hy35⟩) (by assumption) ?_
                case hy35 => (intro w_ hSw; (try dsimp only at hSw); go_simp; try (with_reducible rfl))
                (try simp only [Act.put, List.setIfInBounds_toArray, List.set_cons_zero, List.set_cons_succ])
                refine wpAnyH_ready (rs := [34]) (by kernel_rfl) (by simp) ?_
                refine AllReadyH.cons (o := { dst := some 117, op := Op.call { callee := Callee.value (Operand.func 22), args := #[Operand.tmp 114, Operand.tmp 115, Operand.tmp 116], argTypes := #[26, 3, 3] }, type := 3, pos := "law.go:177", after := #[{ on := 31, ground := Ground.data }, { on := 32, ground := Ground.data }, { on := 33, ground := Ground.data }, { on := 30, ground := Ground.chain }, { on := 30, ground := Ground.guard }], guard := some (30, false) }) rfl (fun K_ hK => ?_) AllReadyH.nil
                go_simp
                (go_at_call 22; (with_reducible refine (HF5d.out.at_i List.mem_cons_self hxW HKX.out).mono ?_); rintro e w6 ⟨rfl, hF, hK⟩; have HR6 := Aside0.mk (HR5d.out.ke hK HG2.out.1 HG2.out.2); have hS6 : w6.cell? ⟨g2, k, none⟩ = some (.int .i64 x) ∧ w6.cell? ⟨g2, 0, none⟩ = some (.int .i64 y0) ∧ w6.cell? ⟨g2, m, none⟩ = some (.int .i64 y1) := ⟨HR6.out.get HX2.out, HR6.out.get HZ2.out, HR6.out.get HW2.out⟩; have HF6 := Aside0.mk hF; clear hF hK)
                first | refine hK.out _ _ ?kp34 (fun hHeld => ?_) | (go_wp2_with fail; refine hK.out _ _ ?kp34 (fun hHeld => ?_))
                case kp34 => exact (by assumption)
                clear hK K_
                (try simp only [Act.put, List.setIfInBounds_toArray, List.set_cons_zero, List.set_cons_succ])
                refine wpAnyH_take (i := 36) (oi := { dst := some 119, op := Op.binOp BinOp.neq 3 (Operand.tmp 117) (Operand.tmp 118) 3, type := 4, pos := "law.go:177", after := #[{ on := 34, ground := Ground.data }, { on := 35, ground := Ground.data }, { on := 30, ground := Ground.guard }], guard := some (30, false) }) (v := ?_) rfl (by kernel_rfl) (by kernel_rfl) (by kernel_rfl) (fun _ _ _ h => h) (Or.inl ⟨by rfl, ?hy36⟩) (by assumption) ?_
                case hy36 => (intro w_ hSw; (try dsimp only at hSw); go_simp; try (with_reducible rfl))
                (try simp only [Act.put, List.setIfInBounds_toArray, List.set_cons_zero, List.set_cons_succ])
                refine wpAnyH_take (i := 37) (oi := { dst := some 120, op := Op.pick (Operand.tmp 113) (Operand.const (Value.bool true)) (Operand.tmp 119), type := 4, pos := "law.go:177", after := #[{ on := 30, ground := Ground.data }, { on := 36, ground := Ground.data }], guard := none }) (v := ?_) rfl (by kernel_rfl) (by kernel_rfl) (by kernel_rfl) (fun _ _ _ h => h) (Or.inl ⟨by rfl, ?hy37⟩) (by assumption) ?_
                case hy37 => (intro w_ hSw; (try dsimp only at hSw); go_simp; try (with_reducible rfl))
                (try simp only [Act.put, List.setIfInBounds_toArray, List.set_cons_zero, List.set_cons_succ])
                refine wpAnyH_take (i := 38) (oi := { dst := some 121, op := Op.move (Operand.tmp 120), type := 4, pos := "law.go:177", after := #[{ on := 37, ground := Ground.data }, { on := 34, ground := Ground.chain }], guard := none }) (v := ?_) rfl (by kernel_rfl) (by kernel_rfl) (by kernel_rfl) (fun _ _ _ h => h) (Or.inl ⟨by rfl, ?hy38⟩) (by assumption) ?_
                case hy38 => (intro w_ hSw; (try dsimp only at hSw); go_simp; try (with_reducible rfl))
                (try simp only [Act.put, List.setIfInBounds_toArray, List.set_cons_zero, List.set_cons_succ])
                refine wpAnyH_take (i := 39) (oi := { dst := some 122, op := Op.move (Operand.tmp 10), type := 26, pos := "law.go:177", after := #[{ on := 38, ground := Ground.guard }], guard := some (38, false) }) (v := ?_) rfl (by kernel_rfl) (by kernel_rfl) (by kernel_rfl) (fun _ _ _ h => h) (Or.inl ⟨by rfl, ?hy39⟩) (by assumption) ?_
                case hy39 => (intro w_ hSw; (try dsimp only at hSw); go_simp; try (with_reducible rfl))
                (try simp only [Act.put, List.setIfInBounds_toArray, List.set_cons_zero, List.set_cons_succ])
                refine wpAnyH_take (i := 40) (oi := { dst := some 123, op := Op.move (Operand.tmp 15), type := 3, pos := "law.go:177", after := #[{ on := 38, ground := Ground.guard }], guard := some (38, false) }) (v := ?_) rfl (by kernel_rfl) (by kernel_rfl) (by kernel_rfl) (fun _ _ _ h => h) (Or.inl ⟨by rfl, ?hy40⟩) (by assumption) ?_
                case hy40 => (intro w_ hSw; (try dsimp only at hSw); go_simp; try (with_reducible rfl))
                (try simp only [Act.put, List.setIfInBounds_toArray, List.set_cons_zero, List.set_cons_succ])
                refine wpAnyH_take (i := 42) (oi := { dst := some 125, op := Op.move (Operand.tmp 14), type := 22, pos := "law.go:177", after := #[{ on := 38, ground := Ground.guard }], guard := some (38, false) }) (v := ?_) rfl (by kernel_rfl) (by kernel_rfl) (by kernel_rfl) (fun _ _ _ h => h) (Or.inl ⟨by rfl, ?hy42⟩) (by assumption) ?_
                case hy42 => (intro w_ hSw; (try dsimp only at hSw); go_simp; try (with_reducible rfl))
                (try simp only [Act.put, List.setIfInBounds_toArray, List.set_cons_zero, List.set_cons_succ])
                refine wpAnyH_take (i := 43) (oi := { dst := some 126, op := Op.move (Operand.tmp 14), type := 22, pos := "law.go:177", after := #[{ on := 38, ground := Ground.guard }], guard := some (38, false) }) (v := ?_) rfl (by kernel_rfl) (by kernel_rfl) (by kernel_rfl) (fun _ _ _ h => h) (Or.inl ⟨by rfl, ?hy43⟩) (by assumption) ?_
                case hy43 => (intro w_ hSw; (try dsimp only at hSw); go_simp; try (with_reducible rfl))
                (try simp only [Act.put, List.setIfInBounds_toArray, List.set_cons_zero, List.set_cons_succ])
                refine wpAnyH_take (i := 44) (oi := { dst := some 127, op := Op.call { callee := Callee.builtin Builtin.len, args := #[Operand.tmp 126], argTypes := #[22] }, type := 3, pos := "law.go:177", after := #[{ on := 43, ground := Ground.data }, { on := 38, ground := Ground.guard }], guard := some (38, false) }) (v := ?_) rfl (by kernel_rfl) (by kernel_rfl) (by kernel_rfl) (fun _ _ _ h => h) (Or.inl ⟨by rfl, ?hy44⟩) (by assumption) ?_
                case hy44 => (intro w_ hSw; (try dsimp only at hSw); go_simp; try (with_reducible rfl))
                (try simp only [Act.put, List.setIfInBounds_toArray, List.set_cons_zero, List.set_cons_succ])
                refine wpAnyH_take (i := 45) (oi := { dst := some 128, op := Op.binOp BinOp.sub 3 (Operand.tmp 127) (Operand.const (Value.int IntKind.i64 1)) 3, type := 3, pos := "law.go:177", after := #[{ on := 44, ground := Ground.data }, { on := 38, ground := Ground.guard }], guard := some (38, false) }) (v := ?_) rfl (by kernel_rfl) (by kernel_rfl) (by kernel_rfl) (fun _ _ _ h => h) (Or.inl ⟨by rfl, ?hy45⟩) (by assumption) ?_
                case hy45 => (intro w_ hSw; (try dsimp only at hSw); go_simp; try (with_reducible rfl))
                (try simp only [Act.put, List.setIfInBounds_toArray, List.set_cons_zero, List.set_cons_succ])
                refine wpAnyH_take (i := 46) (oi := { dst := some 129, op := Op.indexAddr 22 (Operand.tmp 125) (Operand.tmp 128), type := 0, pos := "law.go:177", after := #[{ on := 42, ground := Ground.data }, { on := 45, ground := Ground.data }, { on := 38, ground := Ground.guard }], guard := some (38, false) }) (v := ?_) rfl (by kernel_rfl) (by kernel_rfl) (by kernel_rfl) (fun _ _ _ h => h) (Or.inl ⟨by rfl, ?hy46⟩) (by assumption) ?_
                case hy46 => (intro w_ hSw; (try dsimp only at hSw); go_simp; try (with_reducible rfl))
                (try simp only [Act.put, List.setIfInBounds_toArray, List.set_cons_zero, List.set_cons_succ])
                refine wpAnyH_take (i := 47) (oi := { dst := some 130, op := Op.load 3 (Operand.tmp 129), type := 3, pos := "law.go:177", after := #[{ on := 46, ground := Ground.data }, { on := 38, ground := Ground.guard }], guard := some (38, false) }) (v := ?_) rfl (by kernel_rfl) (by kernel_rfl) (by kernel_rfl) (fun _ _ _ h => h) (Or.inl ⟨by rfl, ?hy47⟩) (by assumption) ?_
                case hy47 => (intro w_ hSw; (try dsimp only at hSw); go_simp; try (with_reducible rfl))
                (try simp only [Act.put, List.setIfInBounds_toArray, List.set_cons_zero, List.set_cons_succ])
                refine wpAnyH_ready (rs := [41]) (by kernel_rfl) (by simp) ?_
                refine AllReadyH.cons (o := { dst := some 124, op := Op.call { callee := Callee.value (Operand.func 24), args := #[Operand.tmp 122, Operand.tmp 123], argTypes := #[26, 3] }, type := 3, pos := "law.go:177", after := #[{ on := 39, ground := Ground.data }, { on := 40, ground := Ground.data }, { on := 38, ground := Ground.chain }, { on := 38, ground := Ground.guard }], guard := some (38, false) }) rfl (fun K_ hK => ?_) AllReadyH.nil
                go_simp
                (go_at_call 24; (with_reducible refine (HF6.out.last_i List.mem_cons_self hxW HML.out HY1.out).mono ?_); rintro e w7 ⟨rfl, hF, hK⟩; have HR7 := Aside0.mk (HR6.out.ke hK HG2.out.1 HG2.out.2); have hS7 : w7.cell? ⟨g2, k, none⟩ = some (.int .i64 x) ∧ w7.cell? ⟨g2, 0, none⟩ = some (.int .i64 y0) ∧ w7.cell? ⟨g2, m, none⟩ = some (.int .i64 y1) := ⟨HR7.out.get HX2.out, HR7.out.get HZ2.out, HR7.out.get HW2.out⟩; have HF7 := Aside0.mk hF; clear hF hK)
                first | refine hK.out _ _ ?kp41 (fun hHeld => ?_) | (go_wp2_with fail; refine hK.out _ _ ?kp41 (fun hHeld => ?_))
                case kp41 => exact (by assumption)
                clear hK K_
                (try simp only [Act.put, List.setIfInBounds_toArray, List.set_cons_zero, List.set_cons_succ])
                refine wpAnyH_take (i := 48) (oi := { dst := some 131, op := Op.binOp BinOp.neq 3 (Operand.tmp 124) (Operand.tmp 130) 3, type := 4, pos := "law.go:177", after := #[{ on := 41, ground := Ground.data }, { on := 47, ground := Ground.data }, { on := 38, ground := Ground.guard }], guard := some (38, false) }) (v := ?_) rfl (by kernel_rfl) (by kernel_rfl) (by kernel_rfl) (fun _ _ _ h => h) (Or.inl ⟨by rfl, ?hy48⟩) (by assumption) ?_
                case hy48 => (intro w_ hSw; (try dsimp only at hSw); go_simp; try (with_reducible rfl))
                (try simp only [Act.put, List.setIfInBounds_toArray, List.set_cons_zero, List.set_cons_succ])
                refine wpAnyH_take (i := 49) (oi := { dst := some 132, op := Op.pick (Operand.tmp 121) (Operand.const (Value.bool true)) (Operand.tmp 131), type := 4, pos := "law.go:177", after := #[{ on := 38, ground := Ground.data }, { on := 48, ground := Ground.data }], guard := none }) (v := ?_) rfl (by kernel_rfl) (by kernel_rfl) (by kernel_rfl) (fun _ _ _ h => h) (Or.inl ⟨by rfl, ?hy49⟩) (by assumption) ?_
                case hy49 => (intro w_ hSw; (try dsimp only at hSw); go_simp; try (with_reducible rfl))
                (try simp only [Act.put, List.setIfInBounds_toArray, List.set_cons_zero, List.set_cons_succ])
                refine wpAnyH_take (i := 50) (oi := { dst := some 133, op := Op.move (Operand.tmp 132), type := 4, pos := "law.go:177", after := #[{ on := 49, ground := Ground.data }, { on := 41, ground := Ground.chain }], guard := none }) (v := ?_) rfl (by kernel_rfl) (by kernel_rfl) (by kernel_rfl) (fun _ _ _ h => h) (Or.inl ⟨by rfl, ?hy50⟩) (by assumption) ?_
                case hy50 => (intro w_ hSw; (try dsimp only at hSw); go_simp; try (with_reducible rfl))
                (try simp only [Act.put, List.setIfInBounds_toArray, List.set_cons_zero, List.set_cons_succ])
                refine wpAnyH_take (i := 51) (oi := { dst := some 134, op := Op.move (Operand.tmp 10), type := 26, pos := "law.go:177", after := #[{ on := 50, ground := Ground.guard }], guard := some (50, false) }) (v := ?_) rfl (by kernel_rfl) (by kernel_rfl) (by kernel_rfl) (fun _ _ _ h => h) (Or.inl ⟨by rfl, ?hy51⟩) (by assumption) ?_
                case hy51 => (intro w_ hSw; (try dsimp only at hSw); go_simp; try (with_reducible rfl))
                (try simp only [Act.put, List.setIfInBounds_toArray, List.set_cons_zero, List.set_cons_succ])
                refine wpAnyH_take (i := 52) (oi := { dst := some 135, op := Op.move (Operand.tmp 15), type := 3, pos := "law.go:177", after := #[{ on := 50, ground := Ground.guard }], guard := some (50, false) }) (v := ?_) rfl (by kernel_rfl) (by kernel_rfl) (by kernel_rfl) (fun _ _ _ h => h) (Or.inl ⟨by rfl, ?hy52⟩) (by assumption) ?_
                case hy52 => (intro w_ hSw; (try dsimp only at hSw); go_simp; try (with_reducible rfl))
                (try simp only [Act.put, List.setIfInBounds_toArray, List.set_cons_zero, List.set_cons_succ])
                refine wpAnyH_ready (rs := [53]) (by kernel_rfl) (by simp) ?_
                refine AllReadyH.cons (o := { dst := some 136, op := Op.call { callee := Callee.value (Operand.func 18), args := #[Operand.tmp 134, Operand.tmp 135], argTypes := #[26, 3] }, type := 27, pos := "law.go:177", after := #[{ on := 51, ground := Ground.data }, { on := 52, ground := Ground.data }, { on := 50, ground := Ground.chain }, { on := 50, ground := Ground.guard }], guard := some (50, false) }) rfl (fun K_ hK => ?_) AllReadyH.nil
                go_simp
                (go_at_call 18; (with_reducible refine (HF7.out.split (x := x) (v := v) (L := L) (R := R) (Vs := []) (List.Perm.of_eq (by rw [HE.out]))).mono ?_); rw [HCUT.out]; rintro e w8 ⟨rfl, hF, hK⟩; have HR8 := Aside0.mk (HR7.out.ke hK HG2.out.1 HG2.out.2); have hS8 : w8.cell? ⟨g2, k, none⟩ = some (.int .i64 x) ∧ w8.cell? ⟨g2, 0, none⟩ = some (.int .i64 y0) ∧ w8.cell? ⟨g2, m, none⟩ = some (.int .i64 y1) := ⟨HR8.out.get HX2.out, HR8.out.get HZ2.out, HR8.out.get HW2.out⟩; have HF8 := Aside0.mk hF; clear hF hK)
                first | refine hK.out _ _ ?kp53 (fun hHeld => ?_) | (go_wp2_with fail; refine hK.out _ _ ?kp53 (fun hHeld => ?_))
                case kp53 => exact (by assumption)
                clear hK K_
                (try simp only [Act.put, List.setIfInBounds_toArray, List.set_cons_zero, List.set_cons_succ])
                refine wpAnyH_take (i := 54) (oi := { dst := some 137, op := Op.binOp BinOp.neq 27 (Operand.tmp 136) (Operand.const (Value.int IntKind.i64 0)) 27, type := 4, pos := "law.go:177", after := #[{ on := 53, ground := Ground.data }, { on := 50, ground := Ground.guard }], guard := some (50, false) }) (v := ?_) rfl (by kernel_rfl) (by kernel_rfl) (by kernel_rfl) (fun _ _ _ h => h) (Or.inl ⟨by rfl, ?hy54⟩) (by assumption) ?_
                case hy54 => (intro w_ hSw; (try dsimp only at hSw); go_simp; try (with_reducible rfl))
                (try simp only [Act.put, List.setIfInBounds_toArray, List.set_cons_zero, List.set_cons_succ])
                refine wpAnyH_take (i := 55) (oi := { dst := some 138, op := Op.pick (Operand.tmp 133) (Operand.const (Value.bool true)) (Operand.tmp 137), type := 4, pos := "law.go:177", after := #[{ on := 50, ground := Ground.data }, { on := 54, ground := Ground.data }], guard := none }) (v := ?_) rfl (by kernel_rfl) (by kernel_rfl) (by kernel_rfl) (fun _ _ _ h => h) (Or.inl ⟨by rfl, ?hy55⟩) (by assumption) ?_
                case hy55 => (intro w_ hSw; (try dsimp only at hSw); go_simp; try (with_reducible rfl))
                (try simp only [Act.put, List.setIfInBounds_toArray, List.set_cons_zero, List.set_cons_succ])
                refine wpAnyH_take (i := 56) (oi := { dst := some 139, op := Op.move (Operand.tmp 138), type := 4, pos := "law.go:177", after := #[{ on := 55, ground := Ground.data }, { on := 53, ground := Ground.chain }], guard := none }) (v := ?_) rfl (by kernel_rfl) (by kernel_rfl) (by kernel_rfl) (fun _ _ _ h => h) (Or.inl ⟨by rfl, ?hy56⟩) (by assumption) ?_
                case hy56 => (intro w_ hSw; (try dsimp only at hSw); go_simp; try (with_reducible rfl))
                (try simp only [Act.put, List.setIfInBounds_toArray, List.set_cons_zero, List.set_cons_succ])
                refine wpAnyH_take (i := 57) (oi := { dst := some 140, op := Op.move (Operand.tmp 10), type := 26, pos := "law.go:177", after := #[{ on := 56, ground := Ground.guard }], guard := some (56, false) }) (v := ?_) rfl (by kernel_rfl) (by kernel_rfl) (by kernel_rfl) (fun _ _ _ h => h) (Or.inl ⟨by rfl, ?hy57⟩) (by assumption) ?_
                case hy57 => (intro w_ hSw; (try dsimp only at hSw); go_simp; try (with_reducible rfl))
                (try simp only [Act.put, List.setIfInBounds_toArray, List.set_cons_zero, List.set_cons_succ])
                refine wpAnyH_take (i := 58) (oi := { dst := some 141, op := Op.move (Operand.tmp 15), type := 3, pos := "law.go:177", after := #[{ on := 56, ground := Ground.guard }], guard := some (56, false) }) (v := ?_) rfl (by kernel_rfl) (by kernel_rfl) (by kernel_rfl) (fun _ _ _ h => h) (Or.inl ⟨by rfl, ?hy58⟩) (by assumption) ?_
                case hy58 => (intro w_ hSw; (try dsimp only at hSw); go_simp; try (with_reducible rfl))
                (try simp only [Act.put, List.setIfInBounds_toArray, List.set_cons_zero, List.set_cons_succ])
                refine wpAnyH_take (i := 60) (oi := { dst := some 143, op := Op.move (Operand.tmp 14), type := 22, pos := "law.go:177", after := #[{ on := 56, ground := Ground.guard }], guard := some (56, false) }) (v := ?_) rfl (by kernel_rfl) (by kernel_rfl) (by kernel_rfl) (fun _ _ _ h => h) (Or.inl ⟨by rfl, ?hy60⟩) (by assumption) ?_
                case hy60 => (intro w_ hSw; (try dsimp only at hSw); go_simp; try (with_reducible rfl))
                (try simp only [Act.put, List.setIfInBounds_toArray, List.set_cons_zero, List.set_cons_succ])
                refine wpAnyH_take (i := 61) (oi := { dst := some 144, op := Op.move (Operand.tmp 16), type := 3, pos := "law.go:177", after := #[{ on := 56, ground := Ground.guard }], guard := some (56, false) }) (v := ?_) rfl (by kernel_rfl) (by kernel_rfl) (by kernel_rfl) (fun _ _ _ h => h) (Or.inl ⟨by rfl, ?hy61⟩) (by assumption) ?_
                case hy61 => (intro w_ hSw; (try dsimp only at hSw); go_simp; try (with_reducible rfl))
                (try simp only [Act.put, List.setIfInBounds_toArray, List.set_cons_zero, List.set_cons_succ])
                refine wpAnyH_take (i := 62) (oi := { dst := some 145, op := Op.slice 22 (Operand.tmp 143) (some (Operand.tmp 144)) none none, type := 22, pos := "law.go:177", after := #[{ on := 60, ground := Ground.data }, { on := 61, ground := Ground.data }, { on := 56, ground := Ground.guard }], guard := some (56, false) }) (v := ?_) rfl (by kernel_rfl) (by kernel_rfl) (by kernel_rfl) (fun _ _ _ h => h) (Or.inl ⟨by rfl, ?hy62⟩) (by assumption) ?_
                case hy62 => (intro w_ hSw; (try dsimp only at hSw); go_simp; try (with_reducible rfl))
                (try simp only [Act.put, List.setIfInBounds_toArray, List.set_cons_zero, List.set_cons_succ])
                refine wpAnyH_ready (rs := [59]) (by kernel_rfl) (by simp) ?_
                refine AllReadyH.cons (o := { dst := some 142, op := Op.call { callee := Callee.value (Operand.func 20), args := #[Operand.tmp 140, Operand.tmp 141], argTypes := #[26, 3] }, type := 22, pos := "law.go:177", after := #[{ on := 57, ground := Ground.data }, { on := 58, ground := Ground.data }, { on := 56, ground := Ground.chain }, { on := 56, ground := Ground.guard }], guard := some (56, false) }) rfl (fun K_ hK => ?_) AllReadyH.nil
                go_simp
                (go_at_call 20; (with_reducible refine (HF8.out.rowc hXU HXR).mono ?_); rw [HQ.out]; rintro e w9 ⟨g9, c9, rfl, hc9, hm9, hg9, hr9, hF, hb⟩; have HR9 := Aside0.mk (HR8.out.below hb); have hS9 : w9.cell? ⟨g2, k, none⟩ = some (.int .i64 x) ∧ w9.cell? ⟨g2, 0, none⟩ = some (.int .i64 y0) ∧ w9.cell? ⟨g2, m, none⟩ = some (.int .i64 y1) := ⟨HR9.out.get HX2.out, HR9.out.get HZ2.out, HR9.out.get HW2.out⟩; have HF9 := Aside0.mk hF; have HX9 := Aside0.mk hr9; clear hF hb hr9 hg9 hc9 hm9)
                first | refine hK.out _ _ ?kp59 (fun hHeld => ?_) | (go_wp2_with fail; refine hK.out _ _ ?kp59 (fun hHeld => ?_))
                case kp59 => exact (by assumption)
                clear hK K_
                (try simp only [Act.put, List.setIfInBounds_toArray, List.set_cons_zero, List.set_cons_succ])
                refine wpAnyH_ready (rs := [63]) (by kernel_rfl) (by simp) ?_
                refine AllReadyH.cons (o := { dst := some 146, op := Op.call { callee := Callee.value (Operand.func 19), args := #[Operand.tmp 142, Operand.tmp 145], argTypes := #[22, 22] }, type := 4, pos := "law.go:177", after := #[{ on := 59, ground := Ground.data }, { on := 62, ground := Ground.data }, { on := 59, ground := Ground.chain }, { on := 56, ground := Ground.guard }], guard := some (56, false) }) rfl (fun K_ hK => ?_) AllReadyH.nil
                go_simp
                (go_at_call 19; (with_reducible refine (same_n (n := q) (m := i - k) (by have h_ := HQ.out; rw [List.length_map]; exact h_) (by exact HKL.out.2.2.2.2.2) HX9.out.all (HR9.out.drop k) HKL.out.1 HKL.out.2.2.1).mono ?_); rw [hd2]; rintro e wa ⟨rfl, hdd_⟩; have HRa := Aside0.mk (HR9.out.below hdd_.below); have hSa : wa.cell? ⟨g2, k, none⟩ = some (.int .i64 x) ∧ wa.cell? ⟨g2, 0, none⟩ = some (.int .i64 y0) ∧ wa.cell? ⟨g2, m, none⟩ = some (.int .i64 y1) := ⟨HRa.out.get HX2.out, HRa.out.get HZ2.out, HRa.out.get HW2.out⟩; have HFa := Aside0.mk (HF9.out.below hdd_.below); clear hdd_)
                first | refine hK.out _ _ ?kp63 (fun hHeld => ?_) | (go_wp2_with fail; refine hK.out _ _ ?kp63 (fun hHeld => ?_))
                case kp63 => exact (by assumption)
                clear hK K_
                (try simp only [Act.put, List.setIfInBounds_toArray, List.set_cons_zero, List.set_cons_succ])
                refine wpAnyH_take (i := 64) (oi := { dst := some 147, op := Op.unOp UnOp.not 4 (Operand.tmp 146), type := 4, pos := "law.go:177", after := #[{ on := 63, ground := Ground.data }, { on := 56, ground := Ground.guard }], guard := some (56, false) }) (v := ?_) rfl (by kernel_rfl) (by kernel_rfl) (by kernel_rfl) (fun _ _ _ h => h) (Or.inl ⟨by rfl, ?hy64⟩) (by assumption) ?_
                case hy64 => (intro w_ hSw; (try dsimp only at hSw); go_simp; try (with_reducible rfl))
                (try simp only [Act.put, List.setIfInBounds_toArray, List.set_cons_zero, List.set_cons_succ])
                refine wpAnyH_take (i := 65) (oi := { dst := some 148, op := Op.pick (Operand.tmp 139) (Operand.const (Value.bool true)) (Operand.tmp 147), type := 4, pos := "law.go:177", after := #[{ on := 56, ground := Ground.data }, { on := 64, ground := Ground.data }], guard := none }) (v := ?_) rfl (by kernel_rfl) (by kernel_rfl) (by kernel_rfl) (fun _ _ _ h => h) (Or.inl ⟨by rfl, ?hy65⟩) (by assumption) ?_
                case hy65 => (intro w_ hSw; (try dsimp only at hSw); go_simp; try (with_reducible rfl))
                (try simp only [Act.put, List.setIfInBounds_toArray, List.set_cons_zero, List.set_cons_succ])
                refine wpAnyH_take (i := 66) (oi := { dst := some 149, op := Op.move (Operand.tmp 148), type := 4, pos := "law.go:177", after := #[{ on := 65, ground := Ground.data }, { on := 63, ground := Ground.chain }], guard := none }) (v := ?_) rfl (by kernel_rfl) (by kernel_rfl) (by kernel_rfl) (fun _ _ _ h => h) (Or.inl ⟨by rfl, ?hy66⟩) (by assumption) ?_
                case hy66 => (intro w_ hSw; (try dsimp only at hSw); go_simp; try (with_reducible rfl))
                (try simp only [Act.put, List.setIfInBounds_toArray, List.set_cons_zero, List.set_cons_succ])
                refine wpAnyH_take (i := 67) (oi := { dst := some 150, op := Op.move (Operand.tmp 17), type := 3, pos := "law.go:177", after := #[{ on := 66, ground := Ground.guard }], guard := some (66, false) }) (v := ?_) rfl (by kernel_rfl) (by kernel_rfl) (by kernel_rfl) (fun _ _ _ h => h) (Or.inl ⟨by rfl, ?hy67⟩) (by assumption) ?_
                case hy67 => (intro w_ hSw; (try dsimp only at hSw); go_simp; try (with_reducible rfl))
                (try simp only [Act.put, List.setIfInBounds_toArray, List.set_cons_zero, List.set_cons_succ])
                refine wpAnyH_take (i := 68) (oi := { dst := some 151, op := Op.move (Operand.tmp 15), type := 3, pos := "law.go:177", after := #[{ on := 66, ground := Ground.guard }], guard := some (66, false) }) (v := ?_) rfl (by kernel_rfl) (by kernel_rfl) (by kernel_rfl) (fun _ _ _ h => h) (Or.inl ⟨by rfl, ?hy68⟩) (by assumption) ?_
                case hy68 => (intro w_ hSw; (try dsimp only at hSw); go_simp; try (with_reducible rfl))
                (try simp only [Act.put, List.setIfInBounds_toArray, List.set_cons_zero, List.set_cons_succ])
                refine wpAnyH_take (i := 69) (oi := { dst := some 152, op := Op.binOp BinOp.neq 3 (Operand.tmp 150) (Operand.tmp 151) 3, type := 4, pos := "law.go:177", after := #[{ on := 67, ground := Ground.data }, { on := 68, ground := Ground.data }, { on := 66, ground := Ground.guard }], guard := some (66, false) }) (v := ?_) rfl (by kernel_rfl) (by kernel_rfl) (by kernel_rfl) (fun _ _ _ h => h) (Or.inl ⟨by rfl, ?hy69⟩) (by assumption) ?_
                case hy69 => (intro w_ hSw; (try dsimp only at hSw); go_simp; try (with_reducible rfl))
                (try simp only [Act.put, List.setIfInBounds_toArray, List.set_cons_zero, List.set_cons_succ])
                refine wpAnyH_take (i := 70) (oi := { dst := some 153, op := Op.move (Operand.tmp 152), type := 4, pos := "law.go:177", after := #[{ on := 69, ground := Ground.data }, { on := 66, ground := Ground.chain }, { on := 66, ground := Ground.guard }], guard := some (66, false) }) (v := ?_) rfl (by kernel_rfl) (by kernel_rfl) (by kernel_rfl) (fun _ _ _ h => h) (Or.inl ⟨by rfl, ?hy70⟩) (by assumption) ?_
                case hy70 => (intro w_ hSw; (try dsimp only at hSw); go_simp; try (with_reducible rfl))
                (try simp only [Act.put, List.setIfInBounds_toArray, List.set_cons_zero, List.set_cons_succ])
                refine wpAnyH_take (i := 71) (oi := { dst := some 154, op := Op.move (Operand.tmp 10), type := 26, pos := "law.go:177", after := #[{ on := 70, ground := Ground.guard }], guard := some (70, true) }) (v := ?_) rfl (by kernel_rfl) (by kernel_rfl) (by kernel_rfl) (fun _ _ _ h => h) (Or.inl ⟨by rfl, ?hy71⟩) (by assumption) ?_
                case hy71 => (intro w_ hSw; (try dsimp only at hSw); go_simp; try (with_reducible rfl))
                (try simp only [Act.put, List.setIfInBounds_toArray, List.set_cons_zero, List.set_cons_succ])
                refine wpAnyH_take (i := 72) (oi := { dst := some 155, op := Op.move (Operand.tmp 17), type := 3, pos := "law.go:177", after := #[{ on := 70, ground := Ground.guard }], guard := some (70, true) }) (v := ?_) rfl (by kernel_rfl) (by kernel_rfl) (by kernel_rfl) (fun _ _ _ h => h) (Or.inl ⟨by rfl, ?hy72⟩) (by assumption) ?_
                case hy72 => (intro w_ hSw; (try dsimp only at hSw); go_simp; try (with_reducible rfl))
                (try simp only [Act.put, List.setIfInBounds_toArray, List.set_cons_zero, List.set_cons_succ])
                refine wpAnyH_take (i := 74) (oi := { dst := some 157, op := Op.move (Operand.tmp 14), type := 22, pos := "law.go:177", after := #[{ on := 70, ground := Ground.guard }], guard := some (70, true) }) (v := ?_) rfl (by kernel_rfl) (by kernel_rfl) (by kernel_rfl) (fun _ _ _ h => h) (Or.inl ⟨by rfl, ?hy74⟩) (by assumption) ?_
                case hy74 => (intro w_ hSw; (try dsimp only at hSw); go_simp; try (with_reducible rfl))
                (try simp only [Act.put, List.setIfInBounds_toArray, List.set_cons_zero, List.set_cons_succ])
                refine wpAnyH_take (i := 75) (oi := { dst := some 158, op := Op.move (Operand.tmp 16), type := 3, pos := "law.go:177", after := #[{ on := 70, ground := Ground.guard }], guard := some (70, true) }) (v := ?_) rfl (by kernel_rfl) (by kernel_rfl) (by kernel_rfl) (fun _ _ _ h => h) (Or.inl ⟨by rfl, ?hy75⟩) (by assumption) ?_
                case hy75 => (intro w_ hSw; (try dsimp only at hSw); go_simp; try (with_reducible rfl))
                (try simp only [Act.put, List.setIfInBounds_toArray, List.set_cons_zero, List.set_cons_succ])
                refine wpAnyH_take (i := 76) (oi := { dst := some 159, op := Op.slice 22 (Operand.tmp 157) none (some (Operand.tmp 158)) none, type := 22, pos := "law.go:177", after := #[{ on := 74, ground := Ground.data }, { on := 75, ground := Ground.data }, { on := 70, ground := Ground.guard }], guard := some (70, true) }) (v := ?_) rfl (by kernel_rfl) (by kernel_rfl) (by kernel_rfl) (fun _ _ _ h => h) (Or.inl ⟨by rfl, ?hy76⟩) (by assumption) ?_
                case hy76 => (intro w_ hSw; (try dsimp only at hSw); go_simp; try (with_reducible rfl))
                (try simp only [Act.put, List.setIfInBounds_toArray, List.set_cons_zero, List.set_cons_succ])
                refine wpAnyH_ready (rs := [73]) (by kernel_rfl) (by simp) ?_
                refine AllReadyH.cons (o := { dst := some 156, op := Op.call { callee := Callee.value (Operand.func 20), args := #[Operand.tmp 154, Operand.tmp 155], argTypes := #[26, 3] }, type := 22, pos := "law.go:177", after := #[{ on := 71, ground := Ground.data }, { on := 72, ground := Ground.data }, { on := 70, ground := Ground.chain }, { on := 70, ground := Ground.guard }], guard := some (70, true) }) rfl (fun K_ hK => ?_) AllReadyH.nil
                go_simp
                (go_at_call 20; (with_reducible refine (HFa.out.rowc hLU hYL).mono ?_); rw [HKK.out]; rintro e wc ⟨gc, cc, rfl, hcc, hmc, hgc, hrc, hF, hb⟩; have HRc := Aside0.mk (HRa.out.below hb); have hSc : wc.cell? ⟨g2, k, none⟩ = some (.int .i64 x) ∧ wc.cell? ⟨g2, 0, none⟩ = some (.int .i64 y0) ∧ wc.cell? ⟨g2, m, none⟩ = some (.int .i64 y1) := ⟨HRc.out.get HX2.out, HRc.out.get HZ2.out, HRc.out.get HW2.out⟩; have HFc := Aside0.mk hF; have HXc := Aside0.mk hrc; clear hF hb hrc hgc hcc hmc)
                first | refine hK.out _ _ ?kp73 (fun hHeld => ?_) | (go_wp2_with fail; refine hK.out _ _ ?kp73 (fun hHeld => ?_))
                case kp73 => exact (by assumption)
                clear hK K_
                (try simp only [Act.put, List.setIfInBounds_toArray, List.set_cons_zero, List.set_cons_succ])
                refine wpAnyH_ready (rs := [77]) (by kernel_rfl) (by simp) ?_
                refine AllReadyH.cons (o := { dst := some 160, op := Op.call { callee := Callee.value (Operand.func 19), args := #[Operand.tmp 156, Operand.tmp 159], argTypes := #[22, 22] }, type := 4, pos := "law.go:177", after := #[{ on := 73, ground := Ground.data }, { on := 76, ground := Ground.data }, { on := 73, ground := Ground.chain }, { on := 70, ground := Ground.guard }], guard := some (70, true) }) rfl (fun K_ hK => ?_) AllReadyH.nil
                go_simp
                (go_at_call 19; (with_reducible refine (same_n (n := k) (m := k) (by have h_ := HKK.out; rw [List.length_map]; exact h_) HKL.out.2.2.2.2.1 HXc.out.all (HRc.out.take k) HKL.out.2.2.2.1 HKL.out.2.2.2.1).mono ?_); rw [hd1]; rintro e wd ⟨rfl, hdd_⟩; have HRd := Aside0.mk (HRc.out.below hdd_.below); have hSd : wd.cell? ⟨g2, k, none⟩ = some (.int .i64 x) ∧ wd.cell? ⟨g2, 0, none⟩ = some (.int .i64 y0) ∧ wd.cell? ⟨g2, m, none⟩ = some (.int .i64 y1) := ⟨HRd.out.get HX2.out, HRd.out.get HZ2.out, HRd.out.get HW2.out⟩; have HFd := Aside0.mk (HFc.out.below hdd_.below); clear hdd_)
                first | refine hK.out _ _ ?kp77 (fun hHeld => ?_) | (go_wp2_with fail; refine hK.out _ _ ?kp77 (fun hHeld => ?_))
                case kp77 => exact (by assumption)
                clear hK K_
                (try simp only [Act.put, List.setIfInBounds_toArray, List.set_cons_zero, List.set_cons_succ])
                refine wpAnyH_take (i := 78) (oi := { dst := some 161, op := Op.unOp UnOp.not 4 (Operand.tmp 160), type := 4, pos := "law.go:177", after := #[{ on := 77, ground := Ground.data }, { on := 70, ground := Ground.guard }], guard := some (70, true) }) (v := ?_) rfl (by kernel_rfl) (by kernel_rfl) (by kernel_rfl) (fun _ _ _ h => h) (Or.inl ⟨by rfl, ?hy78⟩) (by assumption) ?_
                case hy78 => (intro w_ hSw; (try dsimp only at hSw); go_simp; try (with_reducible rfl))
                (try simp only [Act.put, List.setIfInBounds_toArray, List.set_cons_zero, List.set_cons_succ])
                refine wpAnyH_take (i := 79) (oi := { dst := some 162, op := Op.pick (Operand.tmp 153) (Operand.tmp 161) (Operand.const (Value.bool false)), type := 4, pos := "law.go:177", after := #[{ on := 70, ground := Ground.data }, { on := 78, ground := Ground.data }, { on := 66, ground := Ground.guard }], guard := some (66, false) }) (v := ?_) rfl (by kernel_rfl) (by kernel_rfl) (by kernel_rfl) (fun _ _ _ h => h) (Or.inl ⟨by rfl, ?hy79⟩) (by assumption) ?_
                case hy79 => (intro w_ hSw; (try dsimp only at hSw); go_simp; try (with_reducible rfl))
                (try simp only [Act.put, List.setIfInBounds_toArray, List.set_cons_zero, List.set_cons_succ])
                refine wpAnyH_take (i := 80) (oi := { dst := some 163, op := Op.pick (Operand.tmp 149) (Operand.const (Value.bool true)) (Operand.tmp 162), type := 4, pos := "law.go:177", after := #[{ on := 66, ground := Ground.data }, { on := 79, ground := Ground.data }], guard := none }) (v := ?_) rfl (by kernel_rfl) (by kernel_rfl) (by kernel_rfl) (fun _ _ _ h => h) (Or.inl ⟨by rfl, ?hy80⟩) (by assumption) ?_
                case hy80 => (intro w_ hSw; (try dsimp only at hSw); go_simp; try (with_reducible rfl))
                (try simp only [Act.put, List.setIfInBounds_toArray, List.set_cons_zero, List.set_cons_succ])
                refine wpAnyH_done (by kernel_rfl) ?_ _
                as_aux_lemma =>
                  clear h1k h2k h3k h4k h5k h6k hkc hkc2 h1m h2m h3m h4m h5m h6m h7m h8m hck hck2 hS5 hyx
                  have hyU : y0 ∈ U.map Prod.fst := my0
                  have hxV : x ∈ U.reverse.map Prod.fst := by rw [List.map_reverse]; exact List.mem_reverse.2 hxW
                  have hyV : y0 ∈ U.reverse.map Prod.fst := by rw [List.map_reverse]; exact List.mem_reverse.2 hyU
                  have hdd := HDD.out
                  go_wp2_with (first
                    | (go_at_call 15; (with_reducible refine (HFd.out.join (Wa := L) (Wb := (x, v) :: R) (Vs := []) (List.Perm.refl _) hYL HXR).mono ?_); rw [← HE.out]; rintro e we ⟨rfl, hF, hK⟩; have HRz := Aside0.mk (HRd.out.ke hK HG2.out.1 HG2.out.2); have HFz := Aside0.mk hF; clear hF hK HFd HRd)
                    | (go_at_call 20; (with_reducible refine (HFz.out.rowc List.mem_cons_self hxW).mono ?_); rw [HUL.out, HKS.out]; rintro e wf ⟨gf, cf, rfl, hcf, hmf, hgf, hrf, hF, hb⟩; have HRf := Aside0.mk (HRz.out.below hb); have HFf := Aside0.mk hF; have HXf := Aside0.mk hrf; clear hF hb hrf hgf hcf hmf HFz HRz)
                    | (go_at_call 19; (refine (same_n (n := i) (m := i) HKQ.out.2.2.2.2 HKQ.out.2.2.2.2 HXf.out.all HRf.out.all HKL.out.2.1 HKL.out.2.1).mono ?_); rw [decide_eq_true (p := ks = ks) rfl]; rintro e wg ⟨rfl, hdd_⟩; have HRg := Aside0.mk (HRf.out.below hdd_.below); have HFg := Aside0.mk (HFf.out.below hdd_.below); clear hdd_ HRf HFf HXf)
                    | (go_at_call 17; (with_reducible refine (HFg.out.turn (W := U) (Vs := []) (List.Perm.refl _) hxW).mono ?_); rintro e wh ⟨⟨vh, rfl⟩, hF, hK⟩; have HRh := Aside0.mk (HRg.out.ke hK HG2.out.1 HG2.out.2); have HFh := Aside0.mk hF; clear hF hK HFg HRg)
                    | (go_at_call 17; (with_reducible refine (HFh.out.turn (W := U.reverse) (Vs := []) (List.Perm.refl _) hyV).mono ?_); rw [List.reverse_reverse]; rintro e wi ⟨⟨vi, rfl⟩, hF, hK⟩; have HRi := Aside0.mk (HRh.out.ke hK HG2.out.1 HG2.out.2); have HFi := Aside0.mk hF; clear hF hK HFh HRh)
                    | (go_at_call 26; (with_reducible refine (HFi.out.add_any hxW HDS.out).mono ?_); rintro e wj ⟨r1, s1, rfl, hF, hK, hrs⟩; have HRj := Aside0.mk (HRi.out.ke hK HG2.out.1 HG2.out.2); have HFj := Aside0.mk hF; have HRS := Aside0.mk hrs; clear hF hK hrs HFi HRi)
                    | (go_at_call 26; (with_reducible refine (HFj.out.add_two HBD.out hyU HDN.out HRS.out).mono ?_); rintro e wk ⟨r2, s2, rfl, hF, hK, hrs⟩; have HRk := Aside0.mk (HRj.out.ke hK HG2.out.1 HG2.out.2); have HFk := Aside0.mk hF; have HRT := Aside0.mk hrs; clear hF hK hrs HFj HRj)
                    | (go_at_call 16; (with_reducible refine (HFk.out.least List.mem_cons_self (by rw [shift_keys]; exact hxW)).mono ?_); rintro e wl ⟨⟨yl, rfl, hy⟩, hF, hK⟩; have HRl := Aside0.mk (HRk.out.ke hK HG2.out.1 HG2.out.2); have HFl := Aside0.mk hF; have HYL := Aside0.mk hy; clear hF hK hy HFk HRk))
                  clear hxV hyV hdd
                  go_loopg [21] (i + 1) (fun kq v21 wq => ∃ (p : Nat), v21 = .int .i64 (p : Int) ∧ Aside0 (p + kq = i + 1 ∧ 0 < kq) ∧ Aside0 (Fm wb wq gs gn i cap [shiftW s2 U]) ∧ Aside0 (RowC wq g2 ks))
                  case atStart => exact ⟨0, rfl, ⟨by omega⟩, HFl, HRl⟩
                  case round =>
                    clear HFl HRl
                    obtain ⟨p, rfl, HP, HF, HRr⟩ := hrel
                    by_cases cp : p < i
                    · obtain ⟨q0, u, vq, kl, mv, hup, hq0, hqi, hval, hymem, hkl, hmv1, hmv2, hkp, hvz⟩ := back_facts HUP.out HF.out HUL.out HYL.out cp
                      have hlt : (p : Int) < (i : Int) := Int.ofNat_lt.2 cp
                      have p0 : (0 : Int) ≤ (p : Int) := Int.natCast_nonneg p
                      have q00 : (0 : Int) ≤ (q0 : Int) := Int.natCast_nonneg q0
                      have q01 : (q0 : Int) < (i : Int) := Int.ofNat_lt.2 hqi
                      have HP2 : Aside0 (p + 1 + (i - p) = i + 1 ∧ 0 < i - p ∧ i - p < gk) := ⟨by have h_ := HP.out; clear hmv1 hmv2; omega⟩
                      have HW1 := Aside0.mk (wr1 p (by have h_ := HN.out; clear hmv1 hmv2; omega))
                      have hcr : wr.cell? ⟨g2, p, none⟩ = some (.int .i64 (q0 : Int)) := HRr.out.get (by rw [← HKS.out]; exact hkp)
                      have tl : decide (vq < mv) = false := decide_eq_false (by omega)
                      have HKL2 := Aside0.mk hkl
                      have HVZ := Aside0.mk hvz
                      have HRV := Aside0.mk ((HRB.out.below HF.out.old).at (j := q0) (by rw [HVL.out]; exact hqi))
                      obtain ⟨a, rfl, hca⟩ := HRV.out
                      have tl2 : mv ≤ vq := hmv1
                      have hksp : ks[p]? = some (q0 : Int) := by rw [← HKS.out]; exact hkp
                      clear hkl hvz HRV hup hkp
                      by_cases ceq : vq = mv
                      · have hpl : decide ((p : Int) < (kl : Int)) = false := decide_eq_false (fun e => Nat.not_lt.2 (hmv2 ceq) (Int.ofNat_lt.1 e))
                        have hpl2 : (kl : Int) ≤ (p : Int) := Int.ofNat_le.2 (hmv2 ceq)
                        have hpl3 : kl ≤ p := hmv2 ceq
                        have hpl4 : decide (p < kl) = false := decide_eq_false (Nat.not_lt.2 hpl3)
                        have ceq2 : (vq == mv) = true := beq_iff_eq.mpr ceq
                        have HKP : Aside0 (ks[p]? = some (q0 : Int)) := ⟨hksp⟩
                        rcases HRT.out with ⟨rfl, rfl, rfl⟩ | rfl
                        · have hvv : vq = vs.getD q0 0 := HVZ.out rfl
                          have HVG : Aside0 (vs[q0]'(by rw [HVL.out]; exact hqi) = vq) := ⟨by rw [hvv, getD_at (by rw [HVL.out]; exact hqi)]⟩
                          clear hvv hca
                          go_wp2_with (first
                            | (go_at_call 25; (with_reducible refine (HF.out.value List.mem_cons_self hval).mono ?_); rintro e wm ⟨rfl, hF, hK⟩; have HRm := Aside0.mk (HRr.out.ke hK HG2.out.1 HG2.out.2); have hcm := HRm.out.get HKP.out; have HFm := Aside0.mk hF; obtain ⟨a_, ea_, hcv0⟩ := (HRB.out.below hF.old).at (j := q0) (by rw [HVL.out]; exact hqi); cases ea_; rw [HVG.out] at hcv0; clear hF hK HF HRr)
                            | (go_at_call 25; (with_reducible refine (HFm.out.value List.mem_cons_self hymem).mono ?_); rintro e wn ⟨rfl, hF, hK⟩; have HRn := Aside0.mk (HRm.out.ke hK HG2.out.1 HG2.out.2); have HFn := Aside0.mk hF; clear hF hK HFm HRm)
                            | (go_at_call 25; (with_reducible refine (HFn.out.value List.mem_cons_self hymem).mono ?_); rintro e wo ⟨rfl, hF, hK⟩; have HRo := Aside0.mk (HRn.out.ke hK HG2.out.1 HG2.out.2); have HFo := Aside0.mk hF; clear hF hK HFn HRn)
                            | (go_at_call 21; (with_reducible refine (HFo.out.place_i List.mem_cons_self HKL2.out).mono ?_); rintro e wp ⟨rfl, hF, hK⟩; have HRp := Aside0.mk (HRo.out.ke hK HG2.out.1 HG2.out.2); have HFp := Aside0.mk hF; clear hF hK HFo HRo))
                          go_roundg (i - p)
                          case measure => exact HP2.out.2.2
                          case rel => exact ⟨p + 1, by first | rw [HW1.out] | rfl, ⟨⟨HP2.out.1, HP2.out.2.1⟩⟩, HFp, HRp⟩
                        · go_wp2_with (first
                            | (go_at_call 25; (with_reducible refine (HF.out.value List.mem_cons_self hval).mono ?_); rintro e wm ⟨rfl, hF, hK⟩; have HRm := Aside0.mk (HRr.out.ke hK HG2.out.1 HG2.out.2); have hcm := HRm.out.get HKP.out; have HFm := Aside0.mk hF; clear hF hK HF HRr)
                            | (go_at_call 25; (with_reducible refine (HFm.out.value List.mem_cons_self hymem).mono ?_); rintro e wn ⟨rfl, hF, hK⟩; have HRn := Aside0.mk (HRm.out.ke hK HG2.out.1 HG2.out.2); have HFn := Aside0.mk hF; clear hF hK HFm HRm)
                            | (go_at_call 25; (with_reducible refine (HFn.out.value List.mem_cons_self hymem).mono ?_); rintro e wo ⟨rfl, hF, hK⟩; have HRo := Aside0.mk (HRn.out.ke hK HG2.out.1 HG2.out.2); have HFo := Aside0.mk hF; clear hF hK HFn HRn)
                            | (go_at_call 21; (with_reducible refine (HFo.out.place_i List.mem_cons_self HKL2.out).mono ?_); rintro e wp ⟨rfl, hF, hK⟩; have HRp := Aside0.mk (HRo.out.ke hK HG2.out.1 HG2.out.2); have HFp := Aside0.mk hF; clear hF hK HFo HRo))
                          go_roundg (i - p)
                          case measure => exact HP2.out.2.2
                          case rel => exact ⟨p + 1, by first | rw [HW1.out] | rfl, ⟨⟨HP2.out.1, HP2.out.2.1⟩⟩, HFp, HRp⟩
                      · have ceq2 : (vq == mv) = false := beq_eq_false_iff_ne.mpr ceq
                        have HKP : Aside0 (ks[p]? = some (q0 : Int)) := ⟨hksp⟩
                        rcases HRT.out with ⟨rfl, rfl, rfl⟩ | rfl
                        · have hvv : vq = vs.getD q0 0 := HVZ.out rfl
                          have HVG : Aside0 (vs[q0]'(by rw [HVL.out]; exact hqi) = vq) := ⟨by rw [hvv, getD_at (by rw [HVL.out]; exact hqi)]⟩
                          clear hvv hca
                          go_wp2_with (first
                            | (go_at_call 25; (with_reducible refine (HF.out.value List.mem_cons_self hval).mono ?_); rintro e wm ⟨rfl, hF, hK⟩; have HRm := Aside0.mk (HRr.out.ke hK HG2.out.1 HG2.out.2); have hcm := HRm.out.get HKP.out; have HFm := Aside0.mk hF; obtain ⟨a_, ea_, hcv0⟩ := (HRB.out.below hF.old).at (j := q0) (by rw [HVL.out]; exact hqi); cases ea_; rw [HVG.out] at hcv0; clear hF hK HF HRr)
                            | (go_at_call 25; (with_reducible refine (HFm.out.value List.mem_cons_self hymem).mono ?_); rintro e wn ⟨rfl, hF, hK⟩; have HRn := Aside0.mk (HRm.out.ke hK HG2.out.1 HG2.out.2); have HFn := Aside0.mk hF; clear hF hK HFm HRm)
                            | (go_at_call 25; (with_reducible refine (HFn.out.value List.mem_cons_self hymem).mono ?_); rintro e wo ⟨rfl, hF, hK⟩; have HRo := Aside0.mk (HRn.out.ke hK HG2.out.1 HG2.out.2); have HFo := Aside0.mk hF; clear hF hK HFn HRn)
                            | (go_at_call 21; (with_reducible refine (HFo.out.place_i List.mem_cons_self HKL2.out).mono ?_); rintro e wp ⟨rfl, hF, hK⟩; have HRp := Aside0.mk (HRo.out.ke hK HG2.out.1 HG2.out.2); have HFp := Aside0.mk hF; clear hF hK HFo HRo))
                          go_roundg (i - p)
                          case measure => exact HP2.out.2.2
                          case rel => exact ⟨p + 1, by first | rw [HW1.out] | rfl, ⟨⟨HP2.out.1, HP2.out.2.1⟩⟩, HFo, HRo⟩
                        · go_wp2_with (first
                            | (go_at_call 25; (with_reducible refine (HF.out.value List.mem_cons_self hval).mono ?_); rintro e wm ⟨rfl, hF, hK⟩; have HRm := Aside0.mk (HRr.out.ke hK HG2.out.1 HG2.out.2); have hcm := HRm.out.get HKP.out; have HFm := Aside0.mk hF; clear hF hK HF HRr)
                            | (go_at_call 25; (with_reducible refine (HFm.out.value List.mem_cons_self hymem).mono ?_); rintro e wn ⟨rfl, hF, hK⟩; have HRn := Aside0.mk (HRm.out.ke hK HG2.out.1 HG2.out.2); have HFn := Aside0.mk hF; clear hF hK HFm HRm)
                            | (go_at_call 25; (with_reducible refine (HFn.out.value List.mem_cons_self hymem).mono ?_); rintro e wo ⟨rfl, hF, hK⟩; have HRo := Aside0.mk (HRn.out.ke hK HG2.out.1 HG2.out.2); have HFo := Aside0.mk hF; clear hF hK HFn HRn)
                            | (go_at_call 21; (with_reducible refine (HFo.out.place_i List.mem_cons_self HKL2.out).mono ?_); rintro e wp ⟨rfl, hF, hK⟩; have HRp := Aside0.mk (HRo.out.ke hK HG2.out.1 HG2.out.2); have HFp := Aside0.mk hF; clear hF hK HFo HRo))
                          go_roundg (i - p)
                          case measure => exact HP2.out.2.2
                          case rel => exact ⟨p + 1, by first | rw [HW1.out] | rfl, ⟨⟨HP2.out.1, HP2.out.2.1⟩⟩, HFo, HRo⟩
                    · obtain rfl : p = i := by have h_ := HP.out; omega
                      have hge : decide ((p : Int) < (p : Int)) = false := decide_eq_false (Int.lt_irrefl _)
                      have HSL : Aside0 ((shiftW s2 U).length = p) := ⟨by unfold shiftW; rw [List.length_map]; exact HUL.out⟩
                      have HSK : Aside0 ((shiftW s2 U).map Prod.fst = ks) := ⟨by rw [shift_keys]; exact HKS.out⟩
                      have hxS : x ∈ (shiftW s2 U).map Prod.fst := by rw [shift_keys]; exact hxW
                      rcases HRS.out with ⟨rfl, _⟩ | ⟨rfl, _, _⟩
                      all_goals
                        go_wp2_with (first
                          | (go_at_call 20; (with_reducible refine (HF.out.rowc List.mem_cons_self hxS).mono ?_); rw [HSL.out, HSK.out]; rintro e wf ⟨gf, cf, rfl, hcf, hmf, hgf, hrf, hF, hb⟩; have HRf := Aside0.mk (HRr.out.below hb); have HFf := Aside0.mk hF; have HXf := Aside0.mk hrf; clear hF hb hrf hgf hcf hmf HF HRr)
                          | (go_at_call 19; (with_reducible refine (same_n (n := p) (m := p) HKQ.out.2.2.2.2 HKQ.out.2.2.2.2 HXf.out.all HRf.out.all HKL.out.2.1 HKL.out.2.1).mono ?_); rw [decide_eq_true (p := ks = ks) rfl]; rintro e wg ⟨rfl, hdd_⟩; have HFg := Aside0.mk (HFf.out.below hdd_.below); clear hdd_ HRf HFf HXf))
                        go_ret
                        exact ⟨rfl, HB1.out.trans (HFg.out.old.mono HB1.out.size)⟩
      · have HV0 := Aside0.mk hv
        clear hv
        go_enter Try.func6, Try.ntmps6
        go_wp2_with (first
          | (go_at_call 12; (with_reducible refine (shown_calls _).mono ?_); rintro e wb ⟨rfl, hB⟩; have HB1 := Aside0.mk hB; have HRB := Aside0.mk (HR.out.below hB); clear hB)
          | (go_at_call 14; refine (new_outn HVL.out (w0 := wb) (Below.refl _ _) HRB.out (by have h_ := HN.out; omega) HV0.out).mono ?_; rintro e w1 ⟨rfl, hB⟩; have HB2 := Aside0.mk hB; clear hB))
        go_ret
        exact ⟨rfl, HB1.out.trans (HB2.out.mono HB1.out.size)⟩
end Go.Proofs.YtcnmbgijehnchaaW.Splay
