/- ForestCuts (walk by hand). -/
import Derived.Test.YtcnmbgijehnchaaM4
set_option linter.unusedVariables false
set_option linter.unusedSimpArgs false
namespace Go.Proofs.YtcnmbgijehnchaaW.Splay
open Go.RowKit Go.Shelf Go.Proofs.YtcnmbgijehnchaaW.PrintWords Go.Proofs.YtcnmbgijehnchaaW.PrintLast Go.Proofs.YtcnmbgijehnchaaW.PrintMore Go.Proofs.YtcnmbgijehnchaaW.Mine
attribute [local go_sem] max2_int min2_int max_two min_two max_three min_three max_four min_four Oper.semAt_some
set_option maxHeartbeats 16000000 in
set_option maxRecDepth 100000 in
theorem cuts_law {w : World} {A : Option Addr} {l : List Int} {c : Nat} {c2 : Int} (hr : Rds w A l) (hwf : ∀ x ∈ l, (Lit.int .i64 x).wf = true) (hlc : l.length ≤ 140737488351232) (hc2 : (Lit.int .i64 c2).wf = true) :
    Calls Try.prog 7 #[.slice A l.length c, .int .i64 c2] w fun e w' => e = .returned (.bool true) ∧ Below w.heap.size w w' := by
  have HR := Aside0.mk hr
  have HWF := Aside0.mk hwf
  clear hr hwf
  by_cases c0 : l.length = 0
  · have c0b : ((l.length : Int) == 0) = true := by simp [c0]
    go_enter Try.func7, Try.ntmps7
    go_wp2_with (go_at_call 27; (with_reducible refine (shown10_calls _).mono ?_); rintro e w1 ⟨rfl, hB⟩; have HB1 := Aside0.mk hB; clear hB)
    go_ret
    exact ⟨rfl, HB1.out⟩
  · by_cases c1 : 60 < l.length
    · have c0b : ((l.length : Int) == 0) = false := beq_eq_false_iff_ne.mpr (by omega)
      have c1b : (60 : Int) < (l.length : Int) := by omega
      go_enter Try.func7, Try.ntmps7
      go_wp2_with (go_at_call 27; (with_reducible refine (shown10_calls _).mono ?_); rintro e w1 ⟨rfl, hB⟩; have HB1 := Aside0.mk hB; clear hB)
      go_ret
      exact ⟨rfl, HB1.out⟩
    · have c0b : ((l.length : Int) == 0) = false := beq_eq_false_iff_ne.mpr (by omega)
      have c1b : (l.length : Int) ≤ 60 := by omega
      have c1c : decide ((60 : Int) < (l.length : Int)) = false := decide_eq_false (by omega)
      obtain ⟨n, hn⟩ : ∃ n : Nat, l.length + 1 = n := ⟨_, rfl⟩
      obtain ⟨b1, b2⟩ := wf_bounds hc2
      have p2 := pk_range (c := c2) (n := (n : Int) - 1) (by omega)
      obtain ⟨k, hk, hk1, hk3⟩ : ∃ k : Nat, pk c2 ((n : Int) - 1) = (k : Int) - 1 ∧ 1 ≤ k ∧ k < n := ⟨(pk c2 ((n : Int) - 1) + 1).toNat, by omega, by omega, by omega⟩
      have HN : Aside0 (l.length + 1 = n ∧ 2 ≤ n ∧ n < 62) := ⟨by omega⟩
      have HKN := Aside0.mk (And.intro hk1 hk3)
      have HKI : Aside0 ((1 : Int) ≤ (k : Int) ∧ (k : Int) < (n : Int)) := ⟨by omega⟩
      have H2 := Aside0.mk (And.intro b1 b2)
      have HP2 := Aside0.mk hk
      have HVL : Aside0 ((List.replicate n (0 : Int)).length = n) := ⟨by simp⟩
      have HVB := Aside0.mk (zeros_bd n)
      have HNP : Aside0 (0 < n ∧ n ≤ 3000 ∧ (0 : Int) < (n : Int) - 1) := ⟨by omega⟩
      have hmk := make_i64 n (by omega)
      have hmu := make_ints n (by omega)
      have hmb := make_bools n (by omega)
      have hi3 : (1 + ((k : Int) - 1)) = (k : Int) := by omega
      have hln : (l.length : Int) + 1 = (n : Int) := by omega
      clear p2
      have hw2 : wrap64 ((l.length : Int) + 1) = (n : Int) := by rw [w64s (by omega) (by omega)]; omega
      have hw3 : wrap64 (1 + ((k : Int) - 1)) = (k : Int) := by clear hw2; rw [w64s (by omega) (by omega)]; omega
      have hw5 : wrap64 (n : Int) = (n : Int) := by clear hw2 hw3; exact w64s (by omega) (by omega)
      have hw6 : wrap64 (k : Int) = (k : Int) := by clear hw2 hw3 hw5; exact w64s (by omega) (by omega)
      have hw7 : wrap64 ((n : Int) - 1) = (n : Int) - 1 := by clear hw2 hw3 hw5 hw6; exact w64s (by omega) (by omega)
      have hn10 : ((n : Int) - 1 == 0) = false := by clear hw2 hw3 hw5 hw6 hw7; exact beq_eq_false_iff_ne.mpr (by omega)
      obtain ⟨u, hu⟩ : ∃ u : Int → Int, (fun y => pk (l.getD (y - 1).toNat 0) y) = u := ⟨_, rfl⟩
      have HU : Aside0 (∀ y : Int, 1 ≤ y → y < (n : Int) → 0 ≤ u y ∧ u y < y) := ⟨fun y a b => by rw [← hu]; exact pk_range (by omega)⟩
      have HUX : Aside0 (∀ (j : Nat) (x : Int), l[j]? = some x → u ((j : Int) + 1) = pk x ((j : Int) + 1)) := ⟨fun j x hx => by
        rw [← hu]
        show pk (l.getD ((j : Int) + 1 - 1).toNat 0) _ = _
        rw [show ((j : Int) + 1 - 1).toNat = j by omega, List.getD_eq_getElem?_getD, hx]
        rfl⟩
      clear hn hk hk1 hk3 b1 b2 hc2 hu hlc
      go_enter Try.func7, Try.ntmps7
      go_wp2_with (first
        | (go_at_call 27; (with_reducible refine (shown10_calls _).mono ?_); rintro e w1 ⟨rfl, hB⟩; have HB1 := Aside0.mk hB; clear hB)
        | (go_at_call 28; (refine (tnew_calls (w0 := w) HVL.out (HB1.out.trans ((below_alloc (Below.refl _ _) _).mono HB1.out.size)) Rds.zeros HNP.out.2.1 HNP.out.1 HVB.out).mono ?_); rintro e w2 ⟨D, rfl, hN, _, _, _, _, hB, hT⟩; rw [← tree_bare (u := u)] at hT; have HD : Aside0 ((D.N : Int) = (n : Int)) := ⟨by rw [hN]⟩; have HT := Aside0.mk hT; clear hN hB hT))
      clear hmk hmu c0b c1b c1c c0 c1
      have HFU := Aside0.mk (HT.out.far (Nat.le_refl _))
      have HT0 : Aside0 (Tm D w (w2.alloc (.cells (madeCells #[.int .i64 0] n) 3)) (treeUp u 1) (worth (List.replicate n 0))) := ⟨HT.out.below (below_alloc (Below.refl _ _) _)⟩
      have HV0 : Aside0 (Va (w2.alloc (.cells (madeCells #[.int .i64 0] n) 3)) w2.heap.size n 3 (treeArr u 1)) := ⟨(Va.new w2 n 3 (.int .i64 0)).fun_ (fun j _ => by unfold treeArr; rw [if_neg (by omega)])⟩
      obtain ⟨gu, hgu⟩ : ∃ g, w2.heap.size = g := ⟨_, rfl⟩
      rw [hgu] at HFU HV0 ⊢
      clear hgu HT
      go_loopg [10] n (fun kq v10 wq => ∃ (i : Nat), v10 = .int .i64 (i : Int) ∧ Aside0 (i + kq = n + 1 ∧ 0 < kq ∧ 1 ≤ i) ∧ Aside0 (Tm D w wq (treeUp u (i : Int)) (worth (List.replicate n 0))) ∧ Aside0 (Va wq gu n 3 (treeArr u (i : Int))))
      case atStart => exact ⟨1, rfl, ⟨by have h_ := HN.out; clear hw2 hw3 hw5 hw6 hw7; omega⟩, HT0, HV0⟩
      case round =>
        clear HT0 HV0
        obtain ⟨i, rfl, HK, HT, HV⟩ := hrel
        by_cases c1 : i < n
        · as_aux_lemma =>
            have hwi : wrap64 ((i : Int) + 1) = (i : Int) + 1 := by have h_ := HK.out; have h2_ := HN.out; clear hw2 hw3 hw5 hw6 hw7; exact w64s (by omega) (by omega)
            obtain ⟨j, hj⟩ : ∃ j : Nat, i = j + 1 := ⟨i - 1, by have h_ := HK.out; clear hw2 hw3 hw5 hw6 hw7 hwi; omega⟩
            have hjl : j < l.length := by have h_ := HN.out; clear hw2 hw3 hw5 hw6 hw7 hwi; omega
            have hji : (j : Int) + 1 = (i : Int) := by clear hw2 hw3 hw5 hw6 hw7 hwi; omega
            obtain ⟨a, rfl, hca⟩ := (HR.out.below HT.out.old).at hjl
            obtain ⟨x, hx⟩ : ∃ x, l[j] = x := ⟨_, rfl⟩
            have hux := HUX.out j x (by rw [List.getElem?_eq_getElem hjl, hx])
            rw [hji] at hux
            rw [hx] at hca
            have HX := Aside0.mk (wf_bounds (HWF.out x (hx ▸ List.getElem_mem hjl)))
            have hi1 : (1 : Int) ≤ (i : Int) := by clear hw2 hw3 hw5 hw6 hw7 hwi; omega
            have hin : (i : Int) < (n : Int) := Int.ofNat_lt.2 c1
            have hur := HU.out (i : Int) hi1 hin
            obtain ⟨p, hp⟩ := Int.eq_ofNat_of_zero_le hur.1
            have HI1 := Aside0.mk hi1
            have HIP : Aside0 ((0 : Int) < (i : Int)) := ⟨by clear hw2 hw3 hw5 hw6 hw7 hwi; omega⟩
            have HPK : Aside0 (pk x (i : Int) = (p : Int)) := ⟨hux.symm.trans hp⟩
            have HUP : Aside0 (u (i : Int) = (p : Int)) := ⟨hp⟩
            have hlt : ((i : Int) < (n : Int)) = True := eq_true hin
            have hlt2 : (j : Int) < (l.length : Int) := Int.ofNat_lt.2 hjl
            have hj0 : (0 : Int) ≤ (j : Int) := Int.natCast_nonneg j
            have hi0 : (0 : Int) ≤ (i : Int) := Int.natCast_nonneg i
            have hwj : wrap64 ((i : Int) - 1) = (j : Int) := by have h2_ := HN.out; clear hw2 hw3 hw5 hw6 hw7 hwi; rw [w64s (by omega) (by omega)]; omega
            have hwj2 : wrap64 (j : Int) = (j : Int) := by have h2_ := HN.out; clear hw2 hw3 hw5 hw6 hw7 hwi hwj; exact w64s (by omega) (by omega)
            have hij : (i : Int) - 1 = (j : Int) := by clear hw2 hw3 hw5 hw6 hw7 hwi hwj hwj2; omega
            have hin0 : ((i : Int) == 0) = false := by clear hw2 hw3 hw5 hw6 hw7 hwi hwj hwj2; exact beq_eq_false_iff_ne.mpr (by omega)
            obtain ⟨hc3, hf3⟩ := HV.out.get c1
            have HTN := HT.out.ok
            obtain ⟨e1, e2, e3, q, hq, hiq⟩ := tree_next (N := (D.N : Int)) (u := u) (i := (i : Int)) (by rw [HD.out]; exact HU.out) HTN hi1 (by rw [HD.out]; exact hin)
            rw [hp] at hq
            have HQ := Aside0.mk (And.intro e1 (And.intro e2 (And.intro e3 (And.intro hq hiq))))
            have HTS := Aside0.mk (HT.out.set_far HFU.out i (.int .i64 (p : Int)))
            have HVS : Aside0 (Va (wr.setCell ⟨gu, i, none⟩ (.int .i64 (p : Int))) gu n 3 (treeArr u ((i : Int) + 1))) := ⟨(HV.out.set i (.int .i64 (p : Int))).fun_ (fun y _ => by rw [← HUP.out]; exact tree_arr (Int.ofNat_le.1 HI1.out) y)⟩
            have hc4 := ((HV.out.set i (.int .i64 (p : Int))).at_ c1 (v := .int .i64 (p : Int)) (if_pos rfl)).1
            have HPUT : Aside0 (put (treeUp u (i : Int)) (i : Int) (p : Int) = treeUp u ((i : Int) + 1)) := ⟨by rw [← HUP.out]; exact tree_put HI1.out⟩
            clear hx hur hux hp e1 e2 e3 hq hiq HTN hji hi1 hjl hj
            go_wp2_with (first
              | (go_at_call 29; (with_reducible refine (pick10_calls _ HX.out.1 HX.out.2 HIP.out).mono ?_); rw [HPK.out]; rintro e w' ⟨rfl, hw'⟩; have hw' := hw'.symm; subst hw')
              | (go_at_call 30; (with_reducible refine (link_ok HTS.out HQ.out.1 HQ.out.2.1 HQ.out.2.2.1 HQ.out.2.2.2.1 HQ.out.2.2.2.2).mono ?_); rw [HPUT.out]; rintro e w3 ⟨rfl, hT, hK⟩; have HT3 := Aside0.mk hT; have HV3 := Aside0.mk (HVS.out.kt hK HFU.out.kt); clear hT hK))
            go_roundg (n - i)
            case measure => have h_ := HK.out; clear hw2 hw3 hw5 hw6 hw7 hwi hwj hwj2; omega
            case rel =>
              have h_ := HK.out
              exact ⟨i + 1, congrArg (Value.int .i64) hwi, ⟨by clear hw2 hw3 hw5 hw6 hw7 hwi hwj hwj2; omega⟩, HT3, HV3⟩
        · as_aux_lemma =>
            have hlt : ((i : Int) < (n : Int)) = False := eq_false (fun h => c1 (Int.ofNat_lt.1 h))
            have hin : i = n := by have h_ := HK.out; clear hw2 hw3 hw5 hw6 hw7; omega
            subst hin
            have HCK : Aside0 ((0 : Int) ≤ (k : Int) ∧ (k : Int) < (D.N : Int) ∧ treeUp u (i : Int) (k : Int) ≠ -1) := ⟨by
              have h_ := HKI.out
              refine ⟨by clear hw2 hw3 hw5 hw6 hw7; omega, by rw [HD.out]; exact h_.2, tree_at h_.1 h_.2 HU.out⟩⟩
            have hki : (k : Int) < (i : Int) := HKI.out.2
            have hk0 : (0 : Int) ≤ (k : Int) := Int.natCast_nonneg k
            go_wp2_with (first
              | (go_at_call 29; (with_reducible refine (pick10_calls _ H2.out.1 H2.out.2 HNP.out.2.2).mono ?_); rw [HP2.out]; rintro e w' ⟨rfl, hw'⟩; have hw' := hw'.symm; subst hw')
              | (go_at_call 31; (with_reducible refine (cut_ok HT.out HCK.out.1 HCK.out.2.1 HCK.out.2.2).mono ?_); rintro e w3 ⟨rfl, hT, hK⟩; have HT3 := Aside0.mk (show Tm D w w3 (cutOff u (i : Int) (k : Int)) _ from hT); have HV3 := Aside0.mk (HV.out.kt hK HFU.out.kt); have HFB := Aside0.mk (hT.far (Nat.le_refl _)); have HBN := Aside0.mk (Va.new w3 i 4 (.bool false)); obtain ⟨hb3, hf3⟩ := HBN.out.get HKN.out.2; clear hT hK))
            have HB3 := Aside0.mk (below_alloc (Below.refl w3.heap.size w3) (.cells ((madeCells #[.bool false] i).setIfInBounds k (.bool true)) 4))
            have HT4 := Aside0.mk (HT3.out.below HB3.out)
            have HV4 := Aside0.mk (HV3.out.below HB3.out)
            have HB4 := Aside0.mk ((Va.new_set w3 i 4 k (.bool false) (.bool true)).fun_ (G := fun j => .bool ((fun j : Nat => decide ((j : Int) = (k : Int))) j)) (fun j _ => by
              by_cases c : j = k
              · subst c; rw [if_pos rfl]; exact congrArg Value.bool (decide_eq_true rfl).symm
              · rw [if_neg c]; exact congrArg Value.bool (decide_eq_false (fun e => c (Int.ofNat_inj.1 e))).symm))
            have HGB : Aside0 (gu ≠ w3.heap.size) := ⟨by have h_ := HV3.out.lt; clear hw2 hw3 hw5 hw6 hw7; omega⟩
            have HBI := Aside0.mk (bi_start (u := u) HD.out HKI.out.1 HKI.out.2)
            obtain ⟨gb, hgb⟩ : ∃ g, w3.heap.size = g := ⟨_, rfl⟩
            rw [hgb] at HFB HB4 HGB ⊢
            clear hgb hb3 hf3 HBN HV3 HT3 HV HT
            have hlk : (1 : Nat) = 1 := rfl
            obtain ⟨b0, hb0⟩ : ∃ b : Nat → Bool, (fun j : Nat => decide ((j : Int) = (k : Int))) = b := ⟨_, rfl⟩
            rw [hb0] at HB4 HBI
            clear hb0 hlk hlt hmb
            go_loopg [13] i (fun kq v13 wq => ∃ (y : Nat) (b : Nat → Bool), v13 = .int .i64 (y : Int) ∧ Aside0 (y + kq = i + 1 ∧ 0 < kq ∧ 1 ≤ y) ∧ Aside0 (Tm D w wq (cutOff u (i : Int) (k : Int)) (worth (List.replicate i 0))) ∧ Aside0 (Va wq gu i 3 (treeArr u (i : Int))) ∧ Aside0 (Va wq gb i 4 (fun j => .bool (b j))) ∧ Aside0 (Bi (D.N : Int) (cutOff u (i : Int) (k : Int)) (k : Int) i y b))
            case atStart => exact ⟨1, b0, rfl, ⟨by have h_ := HN.out; clear hw2 hw3 hw5 hw6 hw7; omega⟩, HT4, HV4, HB4, HBI⟩
            case round =>
              clear HT4 HV4 HB4 HBI
              obtain ⟨y, b, rfl, HK2, HT5, HV5, HB5, HI5⟩ := hrel
              by_cases c2 : y < i
              · have hyi : (y : Int) < (i : Int) := Int.ofNat_lt.2 c2
                have hlt2 : ((y : Int) < (i : Int)) = True := eq_true hyi
                have hwy : wrap64 ((y : Int) + 1) = (y : Int) + 1 := by have h_ := HK2.out; have h2_ := HN.out; clear hw2 hw3 hw5 hw6 hw7; exact w64s (by omega) (by omega)
                have hy0 : (0 : Int) ≤ (y : Int) := Int.natCast_nonneg y
                have hy1 : (1 : Int) ≤ (y : Int) := by have h_ := HK2.out; clear hw2 hw3 hw5 hw6 hw7 hwy; omega
                by_cases c3 : (y : Int) = (k : Int)
                · as_aux_lemma =>
                    obtain rfl := Int.ofNat_inj.1 c3
                    obtain ⟨hbk, hbi⟩ := bi_k HI5.out HD.out hy1 c2 rfl
                    have HBI := Aside0.mk hbi
                    have hcb := (HB5.out.at_ c2 (congrArg Value.bool hbk)).1
                    have HWK := Aside0.mk (cutOff_wk (u := u) HD.out HKI.out.1 HKI.out.2)
                    clear c3 hbi hbk
                    go_wp2
                    have HT6 := Aside0.mk (HT5.out.below (below_drew (Below.refl _ _)))
                    have HV6 := Aside0.mk (HV5.out.below (below_drew (Below.refl _ _)))
                    have HB6 := Aside0.mk (HB5.out.below (below_drew (Below.refl _ _)))
                    refine wp_region_held_drew (S := (fun _ => True)) (by kernel_rfl) (show _ from trivial) (fun hHeld => ?_)
                    refine wpAnyH_take (i := 0) (oi := { dst := some 108, op := Op.move (Operand.tmp 7), type := 45, pos := "again.go:85", after := #[], guard := none }) (v := ?_) rfl (by kernel_rfl) (by kernel_rfl) (by kernel_rfl) (fun _ _ _ h => h) (Or.inl ⟨by rfl, ?hy0⟩) (by assumption) ?_
                    case hy0 => (intro w_ hSw; (try dsimp only at hSw); go_simp; try (with_reducible rfl))
                    (try simp only [Act.put, List.setIfInBounds_toArray, List.set_cons_zero, List.set_cons_succ])
                    refine wpAnyH_take (i := 1) (oi := { dst := some 109, op := Op.move (Operand.tmp 13), type := 3, pos := "again.go:85", after := #[], guard := none }) (v := ?_) rfl (by kernel_rfl) (by kernel_rfl) (by kernel_rfl) (fun _ _ _ h => h) (Or.inl ⟨by rfl, ?hy1⟩) (by assumption) ?_
                    case hy1 => (intro w_ hSw; (try dsimp only at hSw); go_simp; try (with_reducible rfl))
                    (try simp only [Act.put, List.setIfInBounds_toArray, List.set_cons_zero, List.set_cons_succ])
                    refine wpAnyH_take (i := 3) (oi := { dst := some 111, op := Op.move (Operand.tmp 14), type := 3, pos := "again.go:85", after := #[], guard := none }) (v := ?_) rfl (by kernel_rfl) (by kernel_rfl) (by kernel_rfl) (fun _ _ _ h => h) (Or.inl ⟨by rfl, ?hy3⟩) (by assumption) ?_
                    case hy3 => (intro w_ hSw; (try dsimp only at hSw); go_simp; try (with_reducible rfl))
                    (try simp only [Act.put, List.setIfInBounds_toArray, List.set_cons_zero, List.set_cons_succ])
                    refine wpAnyH_ready (rs := [2]) (by kernel_rfl) (by simp) ?_
                    refine AllReadyH.cons (o := { dst := some 110, op := Op.call { callee := Callee.value (Operand.func 32), args := #[Operand.tmp 108, Operand.tmp 109], argTypes := #[45, 3] }, type := 3, pos := "again.go:85", after := #[{ on := 0, ground := Ground.data }, { on := 1, ground := Ground.data }], guard := none }) rfl (fun K_ hK => ?_) AllReadyH.nil
                    go_simp
                    (go_at_call 32; (with_reducible refine (root_calls HT6.out HWK.out).mono ?_); rintro e w7 ⟨rfl, hT, hK⟩; have HT7 := Aside0.mk hT; have HV7 := Aside0.mk (HV6.out.kt hK HFU.out.kt); have HB7 := Aside0.mk (HB6.out.kt hK HFB.out.kt); have hS7 : True := trivial; clear hT hK)
                    first | refine hK.out _ _ ?kp2 (fun hHeld => ?_) | (go_wp2_with fail; refine hK.out _ _ ?kp2 (fun hHeld => ?_))
                    case kp2 => exact (by trivial)
                    clear hK K_
                    (try simp only [Act.put, List.setIfInBounds_toArray, List.set_cons_zero, List.set_cons_succ])
                    refine wpAnyH_take (i := 4) (oi := { dst := some 112, op := Op.binOp BinOp.neq 3 (Operand.tmp 110) (Operand.tmp 111) 3, type := 4, pos := "again.go:85", after := #[{ on := 2, ground := Ground.data }, { on := 3, ground := Ground.data }], guard := none }) (v := ?_) rfl (by kernel_rfl) (by kernel_rfl) (by kernel_rfl) (fun _ _ _ h => h) (Or.inl ⟨by rfl, ?hy4⟩) (by assumption) ?_
                    case hy4 => (intro w_ hSw; (try dsimp only at hSw); go_simp; try (with_reducible rfl))
                    (try simp only [Act.put, List.setIfInBounds_toArray, List.set_cons_zero, List.set_cons_succ])
                    refine wpAnyH_take (i := 5) (oi := { dst := some 113, op := Op.move (Operand.tmp 112), type := 4, pos := "again.go:85", after := #[{ on := 4, ground := Ground.data }, { on := 2, ground := Ground.chain }], guard := none }) (v := ?_) rfl (by kernel_rfl) (by kernel_rfl) (by kernel_rfl) (fun _ _ _ h => h) (Or.inl ⟨by rfl, ?hy5⟩) (by assumption) ?_
                    case hy5 => (intro w_ hSw; (try dsimp only at hSw); go_simp; try (with_reducible rfl))
                    (try simp only [Act.put, List.setIfInBounds_toArray, List.set_cons_zero, List.set_cons_succ])
                    refine wpAnyH_take (i := 6) (oi := { dst := some 114, op := Op.move (Operand.tmp 13), type := 3, pos := "again.go:85", after := #[{ on := 5, ground := Ground.guard }], guard := some (5, false) }) (v := ?_) rfl (by kernel_rfl) (by kernel_rfl) (by kernel_rfl) (fun _ _ _ h => h) (Or.inl ⟨by rfl, ?hy6⟩) (by assumption) ?_
                    case hy6 => (intro w_ hSw; (try dsimp only at hSw); go_simp; try (with_reducible rfl))
                    (try simp only [Act.put, List.setIfInBounds_toArray, List.set_cons_zero, List.set_cons_succ])
                    refine wpAnyH_take (i := 7) (oi := { dst := some 115, op := Op.move (Operand.tmp 11), type := 3, pos := "again.go:85", after := #[{ on := 5, ground := Ground.guard }], guard := some (5, false) }) (v := ?_) rfl (by kernel_rfl) (by kernel_rfl) (by kernel_rfl) (fun _ _ _ h => h) (Or.inl ⟨by rfl, ?hy7⟩) (by assumption) ?_
                    case hy7 => (intro w_ hSw; (try dsimp only at hSw); go_simp; try (with_reducible rfl))
                    (try simp only [Act.put, List.setIfInBounds_toArray, List.set_cons_zero, List.set_cons_succ])
                    refine wpAnyH_take (i := 8) (oi := { dst := some 116, op := Op.binOp BinOp.neq 3 (Operand.tmp 114) (Operand.tmp 115) 3, type := 4, pos := "again.go:85", after := #[{ on := 6, ground := Ground.data }, { on := 7, ground := Ground.data }, { on := 5, ground := Ground.guard }], guard := some (5, false) }) (v := ?_) rfl (by kernel_rfl) (by kernel_rfl) (by kernel_rfl) (fun _ _ _ h => h) (Or.inl ⟨by rfl, ?hy8⟩) (by assumption) ?_
                    case hy8 => (intro w_ hSw; (try dsimp only at hSw); go_simp; try (with_reducible rfl))
                    (try simp only [Act.put, List.setIfInBounds_toArray, List.set_cons_zero, List.set_cons_succ])
                    refine wpAnyH_take (i := 9) (oi := { dst := some 117, op := Op.move (Operand.tmp 116), type := 4, pos := "again.go:85", after := #[{ on := 8, ground := Ground.data }, { on := 5, ground := Ground.chain }, { on := 5, ground := Ground.guard }], guard := some (5, false) }) (v := ?_) rfl (by kernel_rfl) (by kernel_rfl) (by kernel_rfl) (fun _ _ _ h => h) (Or.inl ⟨by rfl, ?hy9⟩) (by assumption) ?_
                    case hy9 => (intro w_ hSw; (try dsimp only at hSw); go_simp; try (with_reducible rfl))
                    (try simp only [Act.put, List.setIfInBounds_toArray, List.set_cons_zero, List.set_cons_succ])
                    refine wpAnyH_take (i := 10) (oi := { dst := some 118, op := Op.move (Operand.tmp 7), type := 45, pos := "again.go:85", after := #[{ on := 9, ground := Ground.guard }], guard := some (9, true) }) (v := undef) rfl (by kernel_rfl) (by kernel_rfl) (by kernel_rfl) (fun _ _ _ h => h) (Or.inr ⟨by rfl, rfl⟩) (by assumption) ?_
                    (try simp only [Act.put, List.setIfInBounds_toArray, List.set_cons_zero, List.set_cons_succ])
                    refine wpAnyH_take (i := 11) (oi := { dst := some 119, op := Op.move (Operand.tmp 13), type := 3, pos := "again.go:85", after := #[{ on := 9, ground := Ground.guard }], guard := some (9, true) }) (v := undef) rfl (by kernel_rfl) (by kernel_rfl) (by kernel_rfl) (fun _ _ _ h => h) (Or.inr ⟨by rfl, rfl⟩) (by assumption) ?_
                    (try simp only [Act.put, List.setIfInBounds_toArray, List.set_cons_zero, List.set_cons_succ])
                    refine wpAnyH_take (i := 12) (oi := { dst := some 120, op := Op.call { callee := Callee.value (Operand.func 33), args := #[Operand.tmp 118, Operand.tmp 119], argTypes := #[45, 3] }, type := 3, pos := "again.go:85", after := #[{ on := 10, ground := Ground.data }, { on := 11, ground := Ground.data }, { on := 9, ground := Ground.chain }, { on := 9, ground := Ground.guard }], guard := some (9, true) }) (v := undef) rfl (by kernel_rfl) (by kernel_rfl) (by kernel_rfl) (fun _ _ _ h => h) (Or.inr ⟨by rfl, rfl⟩) (by assumption) ?_
                    (try simp only [Act.put, List.setIfInBounds_toArray, List.set_cons_zero, List.set_cons_succ])
                    refine wpAnyH_take (i := 13) (oi := { dst := some 121, op := Op.move (Operand.tmp 9), type := 22, pos := "again.go:85", after := #[{ on := 9, ground := Ground.guard }], guard := some (9, true) }) (v := undef) rfl (by kernel_rfl) (by kernel_rfl) (by kernel_rfl) (fun _ _ _ h => h) (Or.inr ⟨by rfl, rfl⟩) (by assumption) ?_
                    (try simp only [Act.put, List.setIfInBounds_toArray, List.set_cons_zero, List.set_cons_succ])
                    refine wpAnyH_take (i := 14) (oi := { dst := some 122, op := Op.move (Operand.tmp 13), type := 3, pos := "again.go:85", after := #[{ on := 9, ground := Ground.guard }], guard := some (9, true) }) (v := undef) rfl (by kernel_rfl) (by kernel_rfl) (by kernel_rfl) (fun _ _ _ h => h) (Or.inr ⟨by rfl, rfl⟩) (by assumption) ?_
                    (try simp only [Act.put, List.setIfInBounds_toArray, List.set_cons_zero, List.set_cons_succ])
                    refine wpAnyH_take (i := 15) (oi := { dst := some 123, op := Op.indexAddr 22 (Operand.tmp 121) (Operand.tmp 122), type := 0, pos := "again.go:85", after := #[{ on := 13, ground := Ground.data }, { on := 14, ground := Ground.data }, { on := 9, ground := Ground.guard }], guard := some (9, true) }) (v := undef) rfl (by kernel_rfl) (by kernel_rfl) (by kernel_rfl) (fun _ _ _ h => h) (Or.inr ⟨by rfl, rfl⟩) (by assumption) ?_
                    (try simp only [Act.put, List.setIfInBounds_toArray, List.set_cons_zero, List.set_cons_succ])
                    refine wpAnyH_take (i := 16) (oi := { dst := some 124, op := Op.load 3 (Operand.tmp 123), type := 3, pos := "again.go:85", after := #[{ on := 15, ground := Ground.data }, { on := 9, ground := Ground.guard }], guard := some (9, true) }) (v := undef) rfl (by kernel_rfl) (by kernel_rfl) (by kernel_rfl) (fun _ _ _ h => h) (Or.inr ⟨by rfl, rfl⟩) (by assumption) ?_
                    (try simp only [Act.put, List.setIfInBounds_toArray, List.set_cons_zero, List.set_cons_succ])
                    refine wpAnyH_take (i := 17) (oi := { dst := some 125, op := Op.binOp BinOp.neq 3 (Operand.tmp 120) (Operand.tmp 124) 3, type := 4, pos := "again.go:85", after := #[{ on := 12, ground := Ground.data }, { on := 16, ground := Ground.data }, { on := 9, ground := Ground.guard }], guard := some (9, true) }) (v := undef) rfl (by kernel_rfl) (by kernel_rfl) (by kernel_rfl) (fun _ _ _ h => h) (Or.inr ⟨by rfl, rfl⟩) (by assumption) ?_
                    (try simp only [Act.put, List.setIfInBounds_toArray, List.set_cons_zero, List.set_cons_succ])
                    refine wpAnyH_take (i := 18) (oi := { dst := some 126, op := Op.pick (Operand.tmp 117) (Operand.tmp 125) (Operand.const (Value.bool false)), type := 4, pos := "again.go:85", after := #[{ on := 9, ground := Ground.data }, { on := 17, ground := Ground.data }, { on := 5, ground := Ground.guard }], guard := some (5, false) }) (v := ?_) rfl (by kernel_rfl) (by kernel_rfl) (by kernel_rfl) (fun _ _ _ h => h) (Or.inl ⟨by rfl, ?hy18⟩) (by assumption) ?_
                    case hy18 => (intro w_ hSw; (try dsimp only at hSw); go_simp; try (with_reducible rfl))
                    (try simp only [Act.put, List.setIfInBounds_toArray, List.set_cons_zero, List.set_cons_succ])
                    refine wpAnyH_take (i := 19) (oi := { dst := some 127, op := Op.pick (Operand.tmp 113) (Operand.const (Value.bool true)) (Operand.tmp 126), type := 4, pos := "again.go:85", after := #[{ on := 5, ground := Ground.data }, { on := 18, ground := Ground.data }], guard := none }) (v := ?_) rfl (by kernel_rfl) (by kernel_rfl) (by kernel_rfl) (fun _ _ _ h => h) (Or.inl ⟨by rfl, ?hy19⟩) (by assumption) ?_
                    case hy19 => (intro w_ hSw; (try dsimp only at hSw); go_simp; try (with_reducible rfl))
                    (try simp only [Act.put, List.setIfInBounds_toArray, List.set_cons_zero, List.set_cons_succ])
                    refine wpAnyH_done (by kernel_rfl) ?_ _
                    go_wp2
                    go_roundg (i - y)
                    case measure => have h_ := HK2.out; clear hw2 hw3 hw5 hw6 hw7 hwy; omega
                    case rel =>
                      have h_ := HK2.out
                      exact ⟨y + 1, b, congrArg (Value.int .i64) hwy, ⟨by clear hw2 hw3 hw5 hw6 hw7 hwy; omega⟩, HT7, HV7, HB7, HBI⟩
                · have hb : ((y : Int) == (k : Int)) = false := beq_eq_false_iff_ne.mpr c3
                  have hbn : ((y : Int) != (k : Int)) = true := bne_iff_ne.mpr c3
                  have hur := HU.out (y : Int) hy1 hyi
                  obtain ⟨p, hp⟩ := Int.eq_ofNat_of_zero_le hur.1
                  have hpy : p < y := by clear hw2 hw3 hw5 hw6 hw7 hwy; omega
                  have hpi : p < i := Nat.lt_trans hpy c2
                  have hp0 : (0 : Int) ≤ (p : Int) := Int.natCast_nonneg p
                  have hpl : (p : Int) < (i : Int) := Int.ofNat_lt.2 hpi
                  have hcu := (HV5.out.at_ c2 (v := .int .i64 (p : Int)) (by unfold treeArr; rw [if_pos ⟨hy1, hyi⟩, hp])).1
                  have HUP : Aside0 (cutOff u (i : Int) (k : Int) (y : Int) = (p : Int)) := ⟨(cutOff_i hy1 hyi c3).trans hp⟩
                  have HHP := Aside0.mk hp
                  have HPY := Aside0.mk hpy
                  obtain ⟨hcy, hfy⟩ := HB5.out.get c2
                  clear hur hp hpy
                  cases hbp : b p
                  · as_aux_lemma =>
                      obtain ⟨hbi, hbf, a, hwy2⟩ := bi_f HI5.out HD.out (Int.ofNat_le.1 hy1) c2 c3 HHP.out HPY.out hbp
                      have HBI := Aside0.mk hbi
                      have HWA := Aside0.mk hwy2
                      rw [hbf] at hcy
                      have hcp := (HB5.out.at_ hpi (congrArg Value.bool hbp)).1
                      clear hbi hwy2 hbf hbp
                      go_wp2
                      have HT6 := Aside0.mk (HT5.out.below (below_drew (Below.refl _ _)))
                      have HV6 := Aside0.mk (HV5.out.below (below_drew (Below.refl _ _)))
                      have HB6 := Aside0.mk (HB5.out.below (below_drew (Below.refl _ _)))
                      have hS6 : wr.drew.cell? ⟨gu, y, none⟩ = some (.int .i64 (p : Int)) := hcu
                      refine wp_region_held_drew (S := (fun W_ => W_.cell? ⟨gu, y, none⟩ = some (.int .i64 (p : Int)))) (by kernel_rfl) (show _ from hS6) (fun hHeld => ?_)
                      refine wpAnyH_take (i := 0) (oi := { dst := some 108, op := Op.move (Operand.tmp 7), type := 45, pos := "again.go:85", after := #[], guard := none }) (v := ?_) rfl (by kernel_rfl) (by kernel_rfl) (by kernel_rfl) (fun _ _ _ h => h) (Or.inl ⟨by rfl, ?hy0⟩) (by assumption) ?_
                      case hy0 => (intro w_ hSw; (try dsimp only at hSw); go_simp; try (with_reducible rfl))
                      (try simp only [Act.put, List.setIfInBounds_toArray, List.set_cons_zero, List.set_cons_succ])
                      refine wpAnyH_take (i := 1) (oi := { dst := some 109, op := Op.move (Operand.tmp 13), type := 3, pos := "again.go:85", after := #[], guard := none }) (v := ?_) rfl (by kernel_rfl) (by kernel_rfl) (by kernel_rfl) (fun _ _ _ h => h) (Or.inl ⟨by rfl, ?hy1⟩) (by assumption) ?_
                      case hy1 => (intro w_ hSw; (try dsimp only at hSw); go_simp; try (with_reducible rfl))
                      (try simp only [Act.put, List.setIfInBounds_toArray, List.set_cons_zero, List.set_cons_succ])
                      refine wpAnyH_take (i := 3) (oi := { dst := some 111, op := Op.move (Operand.tmp 14), type := 3, pos := "again.go:85", after := #[], guard := none }) (v := ?_) rfl (by kernel_rfl) (by kernel_rfl) (by kernel_rfl) (fun _ _ _ h => h) (Or.inl ⟨by rfl, ?hy3⟩) (by assumption) ?_
                      case hy3 => (intro w_ hSw; (try dsimp only at hSw); go_simp; try (with_reducible rfl))
                      (try simp only [Act.put, List.setIfInBounds_toArray, List.set_cons_zero, List.set_cons_succ])
                      refine wpAnyH_ready (rs := [2]) (by kernel_rfl) (by simp) ?_
                      refine AllReadyH.cons (o := { dst := some 110, op := Op.call { callee := Callee.value (Operand.func 32), args := #[Operand.tmp 108, Operand.tmp 109], argTypes := #[45, 3] }, type := 3, pos := "again.go:85", after := #[{ on := 0, ground := Ground.data }, { on := 1, ground := Ground.data }], guard := none }) rfl (fun K_ hK => ?_) AllReadyH.nil
                      go_simp
                      (go_at_call 32; (with_reducible refine (root_calls HT6.out HWA.out).mono ?_); rintro e w7 ⟨rfl, hT, hK⟩; have HT7 := Aside0.mk hT; have HV7 := Aside0.mk (HV6.out.kt hK HFU.out.kt); have HB7 := Aside0.mk (HB6.out.kt hK HFB.out.kt); have hS7 : w7.cell? ⟨gu, y, none⟩ = some (.int .i64 (p : Int)) := (HV7.out.at_ c2 (v := .int .i64 (p : Int)) (by unfold treeArr; rw [if_pos ⟨hy1, hyi⟩, HHP.out])).1; clear hT hK)
                      first | refine hK.out _ _ ?kp2 (fun hHeld => ?_) | (go_wp2_with fail; refine hK.out _ _ ?kp2 (fun hHeld => ?_))
                      case kp2 => exact (by assumption)
                      clear hK K_
                      (try simp only [Act.put, List.setIfInBounds_toArray, List.set_cons_zero, List.set_cons_succ])
                      refine wpAnyH_take (i := 4) (oi := { dst := some 112, op := Op.binOp BinOp.neq 3 (Operand.tmp 110) (Operand.tmp 111) 3, type := 4, pos := "again.go:85", after := #[{ on := 2, ground := Ground.data }, { on := 3, ground := Ground.data }], guard := none }) (v := ?_) rfl (by kernel_rfl) (by kernel_rfl) (by kernel_rfl) (fun _ _ _ h => h) (Or.inl ⟨by rfl, ?hy4⟩) (by assumption) ?_
                      case hy4 => (intro w_ hSw; (try dsimp only at hSw); go_simp; try (with_reducible rfl))
                      (try simp only [Act.put, List.setIfInBounds_toArray, List.set_cons_zero, List.set_cons_succ])
                      refine wpAnyH_take (i := 5) (oi := { dst := some 113, op := Op.move (Operand.tmp 112), type := 4, pos := "again.go:85", after := #[{ on := 4, ground := Ground.data }, { on := 2, ground := Ground.chain }], guard := none }) (v := ?_) rfl (by kernel_rfl) (by kernel_rfl) (by kernel_rfl) (fun _ _ _ h => h) (Or.inl ⟨by rfl, ?hy5⟩) (by assumption) ?_
                      case hy5 => (intro w_ hSw; (try dsimp only at hSw); go_simp; try (with_reducible rfl))
                      (try simp only [Act.put, List.setIfInBounds_toArray, List.set_cons_zero, List.set_cons_succ])
                      refine wpAnyH_take (i := 6) (oi := { dst := some 114, op := Op.move (Operand.tmp 13), type := 3, pos := "again.go:85", after := #[{ on := 5, ground := Ground.guard }], guard := some (5, false) }) (v := ?_) rfl (by kernel_rfl) (by kernel_rfl) (by kernel_rfl) (fun _ _ _ h => h) (Or.inl ⟨by rfl, ?hy6⟩) (by assumption) ?_
                      case hy6 => (intro w_ hSw; (try dsimp only at hSw); go_simp; try (with_reducible rfl))
                      (try simp only [Act.put, List.setIfInBounds_toArray, List.set_cons_zero, List.set_cons_succ])
                      refine wpAnyH_take (i := 7) (oi := { dst := some 115, op := Op.move (Operand.tmp 11), type := 3, pos := "again.go:85", after := #[{ on := 5, ground := Ground.guard }], guard := some (5, false) }) (v := ?_) rfl (by kernel_rfl) (by kernel_rfl) (by kernel_rfl) (fun _ _ _ h => h) (Or.inl ⟨by rfl, ?hy7⟩) (by assumption) ?_
                      case hy7 => (intro w_ hSw; (try dsimp only at hSw); go_simp; try (with_reducible rfl))
                      (try simp only [Act.put, List.setIfInBounds_toArray, List.set_cons_zero, List.set_cons_succ])
                      refine wpAnyH_take (i := 8) (oi := { dst := some 116, op := Op.binOp BinOp.neq 3 (Operand.tmp 114) (Operand.tmp 115) 3, type := 4, pos := "again.go:85", after := #[{ on := 6, ground := Ground.data }, { on := 7, ground := Ground.data }, { on := 5, ground := Ground.guard }], guard := some (5, false) }) (v := ?_) rfl (by kernel_rfl) (by kernel_rfl) (by kernel_rfl) (fun _ _ _ h => h) (Or.inl ⟨by rfl, ?hy8⟩) (by assumption) ?_
                      case hy8 => (intro w_ hSw; (try dsimp only at hSw); go_simp; try (with_reducible rfl))
                      (try simp only [Act.put, List.setIfInBounds_toArray, List.set_cons_zero, List.set_cons_succ])
                      refine wpAnyH_take (i := 9) (oi := { dst := some 117, op := Op.move (Operand.tmp 116), type := 4, pos := "again.go:85", after := #[{ on := 8, ground := Ground.data }, { on := 5, ground := Ground.chain }, { on := 5, ground := Ground.guard }], guard := some (5, false) }) (v := ?_) rfl (by kernel_rfl) (by kernel_rfl) (by kernel_rfl) (fun _ _ _ h => h) (Or.inl ⟨by rfl, ?hy9⟩) (by assumption) ?_
                      case hy9 => (intro w_ hSw; (try dsimp only at hSw); go_simp; try (with_reducible rfl))
                      (try simp only [Act.put, List.setIfInBounds_toArray, List.set_cons_zero, List.set_cons_succ])
                      refine wpAnyH_take (i := 10) (oi := { dst := some 118, op := Op.move (Operand.tmp 7), type := 45, pos := "again.go:85", after := #[{ on := 9, ground := Ground.guard }], guard := some (9, true) }) (v := ?_) rfl (by kernel_rfl) (by kernel_rfl) (by kernel_rfl) (fun _ _ _ h => h) (Or.inl ⟨by rfl, ?hy10⟩) (by assumption) ?_
                      case hy10 => (intro w_ hSw; (try dsimp only at hSw); go_simp; try (with_reducible rfl))
                      (try simp only [Act.put, List.setIfInBounds_toArray, List.set_cons_zero, List.set_cons_succ])
                      refine wpAnyH_take (i := 11) (oi := { dst := some 119, op := Op.move (Operand.tmp 13), type := 3, pos := "again.go:85", after := #[{ on := 9, ground := Ground.guard }], guard := some (9, true) }) (v := ?_) rfl (by kernel_rfl) (by kernel_rfl) (by kernel_rfl) (fun _ _ _ h => h) (Or.inl ⟨by rfl, ?hy11⟩) (by assumption) ?_
                      case hy11 => (intro w_ hSw; (try dsimp only at hSw); go_simp; try (with_reducible rfl))
                      (try simp only [Act.put, List.setIfInBounds_toArray, List.set_cons_zero, List.set_cons_succ])
                      refine wpAnyH_take (i := 13) (oi := { dst := some 121, op := Op.move (Operand.tmp 9), type := 22, pos := "again.go:85", after := #[{ on := 9, ground := Ground.guard }], guard := some (9, true) }) (v := ?_) rfl (by kernel_rfl) (by kernel_rfl) (by kernel_rfl) (fun _ _ _ h => h) (Or.inl ⟨by rfl, ?hy13⟩) (by assumption) ?_
                      case hy13 => (intro w_ hSw; (try dsimp only at hSw); go_simp; try (with_reducible rfl))
                      (try simp only [Act.put, List.setIfInBounds_toArray, List.set_cons_zero, List.set_cons_succ])
                      refine wpAnyH_take (i := 14) (oi := { dst := some 122, op := Op.move (Operand.tmp 13), type := 3, pos := "again.go:85", after := #[{ on := 9, ground := Ground.guard }], guard := some (9, true) }) (v := ?_) rfl (by kernel_rfl) (by kernel_rfl) (by kernel_rfl) (fun _ _ _ h => h) (Or.inl ⟨by rfl, ?hy14⟩) (by assumption) ?_
                      case hy14 => (intro w_ hSw; (try dsimp only at hSw); go_simp; try (with_reducible rfl))
                      (try simp only [Act.put, List.setIfInBounds_toArray, List.set_cons_zero, List.set_cons_succ])
                      refine wpAnyH_take (i := 15) (oi := { dst := some 123, op := Op.indexAddr 22 (Operand.tmp 121) (Operand.tmp 122), type := 0, pos := "again.go:85", after := #[{ on := 13, ground := Ground.data }, { on := 14, ground := Ground.data }, { on := 9, ground := Ground.guard }], guard := some (9, true) }) (v := ?_) rfl (by kernel_rfl) (by kernel_rfl) (by kernel_rfl) (fun _ _ _ h => h) (Or.inl ⟨by rfl, ?hy15⟩) (by assumption) ?_
                      case hy15 => (intro w_ hSw; (try dsimp only at hSw); go_simp; try (with_reducible rfl))
                      (try simp only [Act.put, List.setIfInBounds_toArray, List.set_cons_zero, List.set_cons_succ])
                      refine wpAnyH_take (i := 16) (oi := { dst := some 124, op := Op.load 3 (Operand.tmp 123), type := 3, pos := "again.go:85", after := #[{ on := 15, ground := Ground.data }, { on := 9, ground := Ground.guard }], guard := some (9, true) }) (v := ?_) rfl (by kernel_rfl) (by kernel_rfl) (by kernel_rfl) (fun _ _ _ h => h) (Or.inl ⟨by rfl, ?hy16⟩) (by assumption) ?_
                      case hy16 => (intro w_ hSw; (try dsimp only at hSw); go_simp; try (with_reducible rfl))
                      (try simp only [Act.put, List.setIfInBounds_toArray, List.set_cons_zero, List.set_cons_succ])
                      refine wpAnyH_ready (rs := [12]) (by kernel_rfl) (by simp) ?_
                      refine AllReadyH.cons (o := { dst := some 120, op := Op.call { callee := Callee.value (Operand.func 33), args := #[Operand.tmp 118, Operand.tmp 119], argTypes := #[45, 3] }, type := 3, pos := "again.go:85", after := #[{ on := 10, ground := Ground.data }, { on := 11, ground := Ground.data }, { on := 9, ground := Ground.chain }, { on := 9, ground := Ground.guard }], guard := some (9, true) }) rfl (fun K_ hK => ?_) AllReadyH.nil
                      go_simp
                      (go_at_call 33; (with_reducible refine (above_calls HT7.out HWA.out).mono ?_); rw [HUP.out]; rintro e w8 ⟨rfl, hT, hK⟩; have HT8 := Aside0.mk hT; have HV8 := Aside0.mk (HV7.out.kt hK HFU.out.kt); have HB8 := Aside0.mk (HB7.out.kt hK HFB.out.kt); have hS8 : w8.cell? ⟨gu, y, none⟩ = some (.int .i64 (p : Int)) := (HV8.out.at_ c2 (v := .int .i64 (p : Int)) (by unfold treeArr; rw [if_pos ⟨hy1, hyi⟩, HHP.out])).1; clear hT hK)
                      first | refine hK.out _ _ ?kp12 (fun hHeld => ?_) | (go_wp2_with fail; refine hK.out _ _ ?kp12 (fun hHeld => ?_))
                      case kp12 => exact (by assumption)
                      clear hK K_
                      (try simp only [Act.put, List.setIfInBounds_toArray, List.set_cons_zero, List.set_cons_succ])
                      refine wpAnyH_take (i := 17) (oi := { dst := some 125, op := Op.binOp BinOp.neq 3 (Operand.tmp 120) (Operand.tmp 124) 3, type := 4, pos := "again.go:85", after := #[{ on := 12, ground := Ground.data }, { on := 16, ground := Ground.data }, { on := 9, ground := Ground.guard }], guard := some (9, true) }) (v := ?_) rfl (by kernel_rfl) (by kernel_rfl) (by kernel_rfl) (fun _ _ _ h => h) (Or.inl ⟨by rfl, ?hy17⟩) (by assumption) ?_
                      case hy17 => (intro w_ hSw; (try dsimp only at hSw); go_simp; try (with_reducible rfl))
                      (try simp only [Act.put, List.setIfInBounds_toArray, List.set_cons_zero, List.set_cons_succ])
                      refine wpAnyH_take (i := 18) (oi := { dst := some 126, op := Op.pick (Operand.tmp 117) (Operand.tmp 125) (Operand.const (Value.bool false)), type := 4, pos := "again.go:85", after := #[{ on := 9, ground := Ground.data }, { on := 17, ground := Ground.data }, { on := 5, ground := Ground.guard }], guard := some (5, false) }) (v := ?_) rfl (by kernel_rfl) (by kernel_rfl) (by kernel_rfl) (fun _ _ _ h => h) (Or.inl ⟨by rfl, ?hy18⟩) (by assumption) ?_
                      case hy18 => (intro w_ hSw; (try dsimp only at hSw); go_simp; try (with_reducible rfl))
                      (try simp only [Act.put, List.setIfInBounds_toArray, List.set_cons_zero, List.set_cons_succ])
                      refine wpAnyH_take (i := 19) (oi := { dst := some 127, op := Op.pick (Operand.tmp 113) (Operand.const (Value.bool true)) (Operand.tmp 126), type := 4, pos := "again.go:85", after := #[{ on := 5, ground := Ground.data }, { on := 18, ground := Ground.data }], guard := none }) (v := ?_) rfl (by kernel_rfl) (by kernel_rfl) (by kernel_rfl) (fun _ _ _ h => h) (Or.inl ⟨by rfl, ?hy19⟩) (by assumption) ?_
                      case hy19 => (intro w_ hSw; (try dsimp only at hSw); go_simp; try (with_reducible rfl))
                      (try simp only [Act.put, List.setIfInBounds_toArray, List.set_cons_zero, List.set_cons_succ])
                      refine wpAnyH_done (by kernel_rfl) ?_ _
                      go_wp2
                      go_roundg (i - y)
                      case measure => have h_ := HK2.out; clear hw2 hw3 hw5 hw6 hw7 hwy; omega
                      case rel =>
                        have h_ := HK2.out
                        exact ⟨y + 1, b, congrArg (Value.int .i64) hwy, ⟨by clear hw2 hw3 hw5 hw6 hw7 hwy; omega⟩, HT8, HV8, HB8, HBI⟩
                  · as_aux_lemma =>
                      obtain ⟨hbi, a, hwy2⟩ := bi_t HI5.out HD.out (Int.ofNat_le.1 hy1) c2 c3 HHP.out hpi hbp
                      have HBI := Aside0.mk hbi
                      have HWA := Aside0.mk hwy2
                      have hcp := (HB5.out.at_ hpi (congrArg Value.bool hbp)).1
                      have hcs := ((HB5.out.set y (.bool true)).at_ c2 (v := .bool true) (if_pos rfl)).1
                      have hcu2 := (grown_set wr gb y (.bool true))
                      have HT5s := Aside0.mk (HT5.out.set_far HFB.out y (.bool true))
                      have HV5s := Aside0.mk (HV5.out.far HGB.out y (.bool true))
                      have HB5s := Aside0.mk ((HB5.out.set y (.bool true)).fun_ (G := fun j => .bool ((fun j : Nat => if j = y then true else b j) j)) (fun j _ => by
                        by_cases c : j = y
                        · subst c; rw [if_pos rfl]; exact congrArg Value.bool (if_pos rfl).symm
                        · rw [if_neg c]; exact congrArg Value.bool (if_neg c).symm))
                      clear hbi hwy2 hbp hcu2
                      go_wp2
                      have HT6 := Aside0.mk (HT5s.out.below (below_drew (Below.refl _ _)))
                      have HV6 := Aside0.mk (HV5s.out.below (below_drew (Below.refl _ _)))
                      have HB6 := Aside0.mk (HB5s.out.below (below_drew (Below.refl _ _)))
                      have hS6 : (wr.setCell ⟨gb, y, none⟩ (.bool true)).drew.cell? ⟨gu, y, none⟩ = some (.int .i64 (p : Int)) := (HV6.out.at_ c2 (v := .int .i64 (p : Int)) (by unfold treeArr; rw [if_pos ⟨hy1, hyi⟩, HHP.out])).1
                      refine wp_region_held_drew (S := (fun W_ => W_.cell? ⟨gu, y, none⟩ = some (.int .i64 (p : Int)))) (by kernel_rfl) (show _ from hS6) (fun hHeld => ?_)
                      refine wpAnyH_take (i := 0) (oi := { dst := some 108, op := Op.move (Operand.tmp 7), type := 45, pos := "again.go:85", after := #[], guard := none }) (v := ?_) rfl (by kernel_rfl) (by kernel_rfl) (by kernel_rfl) (fun _ _ _ h => h) (Or.inl ⟨by rfl, ?hy0⟩) (by assumption) ?_
                      case hy0 => (intro w_ hSw; (try dsimp only at hSw); go_simp; try (with_reducible rfl))
                      (try simp only [Act.put, List.setIfInBounds_toArray, List.set_cons_zero, List.set_cons_succ])
                      refine wpAnyH_take (i := 1) (oi := { dst := some 109, op := Op.move (Operand.tmp 13), type := 3, pos := "again.go:85", after := #[], guard := none }) (v := ?_) rfl (by kernel_rfl) (by kernel_rfl) (by kernel_rfl) (fun _ _ _ h => h) (Or.inl ⟨by rfl, ?hy1⟩) (by assumption) ?_
                      case hy1 => (intro w_ hSw; (try dsimp only at hSw); go_simp; try (with_reducible rfl))
                      (try simp only [Act.put, List.setIfInBounds_toArray, List.set_cons_zero, List.set_cons_succ])
                      refine wpAnyH_take (i := 3) (oi := { dst := some 111, op := Op.move (Operand.tmp 14), type := 3, pos := "again.go:85", after := #[], guard := none }) (v := ?_) rfl (by kernel_rfl) (by kernel_rfl) (by kernel_rfl) (fun _ _ _ h => h) (Or.inl ⟨by rfl, ?hy3⟩) (by assumption) ?_
                      case hy3 => (intro w_ hSw; (try dsimp only at hSw); go_simp; try (with_reducible rfl))
                      (try simp only [Act.put, List.setIfInBounds_toArray, List.set_cons_zero, List.set_cons_succ])
                      refine wpAnyH_ready (rs := [2]) (by kernel_rfl) (by simp) ?_
                      refine AllReadyH.cons (o := { dst := some 110, op := Op.call { callee := Callee.value (Operand.func 32), args := #[Operand.tmp 108, Operand.tmp 109], argTypes := #[45, 3] }, type := 3, pos := "again.go:85", after := #[{ on := 0, ground := Ground.data }, { on := 1, ground := Ground.data }], guard := none }) rfl (fun K_ hK => ?_) AllReadyH.nil
                      go_simp
                      (go_at_call 32; (with_reducible refine (root_calls HT6.out HWA.out).mono ?_); rintro e w7 ⟨rfl, hT, hK⟩; have HT7 := Aside0.mk hT; have HV7 := Aside0.mk (HV6.out.kt hK HFU.out.kt); have HB7 := Aside0.mk (HB6.out.kt hK HFB.out.kt); have hS7 : w7.cell? ⟨gu, y, none⟩ = some (.int .i64 (p : Int)) := (HV7.out.at_ c2 (v := .int .i64 (p : Int)) (by unfold treeArr; rw [if_pos ⟨hy1, hyi⟩, HHP.out])).1; clear hT hK)
                      first | refine hK.out _ _ ?kp2 (fun hHeld => ?_) | (go_wp2_with fail; refine hK.out _ _ ?kp2 (fun hHeld => ?_))
                      case kp2 => exact (by assumption)
                      clear hK K_
                      (try simp only [Act.put, List.setIfInBounds_toArray, List.set_cons_zero, List.set_cons_succ])
                      refine wpAnyH_take (i := 4) (oi := { dst := some 112, op := Op.binOp BinOp.neq 3 (Operand.tmp 110) (Operand.tmp 111) 3, type := 4, pos := "again.go:85", after := #[{ on := 2, ground := Ground.data }, { on := 3, ground := Ground.data }], guard := none }) (v := ?_) rfl (by kernel_rfl) (by kernel_rfl) (by kernel_rfl) (fun _ _ _ h => h) (Or.inl ⟨by rfl, ?hy4⟩) (by assumption) ?_
                      case hy4 => (intro w_ hSw; (try dsimp only at hSw); go_simp; try (with_reducible rfl))
                      (try simp only [Act.put, List.setIfInBounds_toArray, List.set_cons_zero, List.set_cons_succ])
                      refine wpAnyH_take (i := 5) (oi := { dst := some 113, op := Op.move (Operand.tmp 112), type := 4, pos := "again.go:85", after := #[{ on := 4, ground := Ground.data }, { on := 2, ground := Ground.chain }], guard := none }) (v := ?_) rfl (by kernel_rfl) (by kernel_rfl) (by kernel_rfl) (fun _ _ _ h => h) (Or.inl ⟨by rfl, ?hy5⟩) (by assumption) ?_
                      case hy5 => (intro w_ hSw; (try dsimp only at hSw); go_simp; try (with_reducible rfl))
                      (try simp only [Act.put, List.setIfInBounds_toArray, List.set_cons_zero, List.set_cons_succ])
                      refine wpAnyH_take (i := 6) (oi := { dst := some 114, op := Op.move (Operand.tmp 13), type := 3, pos := "again.go:85", after := #[{ on := 5, ground := Ground.guard }], guard := some (5, false) }) (v := ?_) rfl (by kernel_rfl) (by kernel_rfl) (by kernel_rfl) (fun _ _ _ h => h) (Or.inl ⟨by rfl, ?hy6⟩) (by assumption) ?_
                      case hy6 => (intro w_ hSw; (try dsimp only at hSw); go_simp; try (with_reducible rfl))
                      (try simp only [Act.put, List.setIfInBounds_toArray, List.set_cons_zero, List.set_cons_succ])
                      refine wpAnyH_take (i := 7) (oi := { dst := some 115, op := Op.move (Operand.tmp 11), type := 3, pos := "again.go:85", after := #[{ on := 5, ground := Ground.guard }], guard := some (5, false) }) (v := ?_) rfl (by kernel_rfl) (by kernel_rfl) (by kernel_rfl) (fun _ _ _ h => h) (Or.inl ⟨by rfl, ?hy7⟩) (by assumption) ?_
                      case hy7 => (intro w_ hSw; (try dsimp only at hSw); go_simp; try (with_reducible rfl))
                      (try simp only [Act.put, List.setIfInBounds_toArray, List.set_cons_zero, List.set_cons_succ])
                      refine wpAnyH_take (i := 8) (oi := { dst := some 116, op := Op.binOp BinOp.neq 3 (Operand.tmp 114) (Operand.tmp 115) 3, type := 4, pos := "again.go:85", after := #[{ on := 6, ground := Ground.data }, { on := 7, ground := Ground.data }, { on := 5, ground := Ground.guard }], guard := some (5, false) }) (v := ?_) rfl (by kernel_rfl) (by kernel_rfl) (by kernel_rfl) (fun _ _ _ h => h) (Or.inl ⟨by rfl, ?hy8⟩) (by assumption) ?_
                      case hy8 => (intro w_ hSw; (try dsimp only at hSw); go_simp; try (with_reducible rfl))
                      (try simp only [Act.put, List.setIfInBounds_toArray, List.set_cons_zero, List.set_cons_succ])
                      refine wpAnyH_take (i := 9) (oi := { dst := some 117, op := Op.move (Operand.tmp 116), type := 4, pos := "again.go:85", after := #[{ on := 8, ground := Ground.data }, { on := 5, ground := Ground.chain }, { on := 5, ground := Ground.guard }], guard := some (5, false) }) (v := ?_) rfl (by kernel_rfl) (by kernel_rfl) (by kernel_rfl) (fun _ _ _ h => h) (Or.inl ⟨by rfl, ?hy9⟩) (by assumption) ?_
                      case hy9 => (intro w_ hSw; (try dsimp only at hSw); go_simp; try (with_reducible rfl))
                      (try simp only [Act.put, List.setIfInBounds_toArray, List.set_cons_zero, List.set_cons_succ])
                      refine wpAnyH_take (i := 10) (oi := { dst := some 118, op := Op.move (Operand.tmp 7), type := 45, pos := "again.go:85", after := #[{ on := 9, ground := Ground.guard }], guard := some (9, true) }) (v := ?_) rfl (by kernel_rfl) (by kernel_rfl) (by kernel_rfl) (fun _ _ _ h => h) (Or.inl ⟨by rfl, ?hy10⟩) (by assumption) ?_
                      case hy10 => (intro w_ hSw; (try dsimp only at hSw); go_simp; try (with_reducible rfl))
                      (try simp only [Act.put, List.setIfInBounds_toArray, List.set_cons_zero, List.set_cons_succ])
                      refine wpAnyH_take (i := 11) (oi := { dst := some 119, op := Op.move (Operand.tmp 13), type := 3, pos := "again.go:85", after := #[{ on := 9, ground := Ground.guard }], guard := some (9, true) }) (v := ?_) rfl (by kernel_rfl) (by kernel_rfl) (by kernel_rfl) (fun _ _ _ h => h) (Or.inl ⟨by rfl, ?hy11⟩) (by assumption) ?_
                      case hy11 => (intro w_ hSw; (try dsimp only at hSw); go_simp; try (with_reducible rfl))
                      (try simp only [Act.put, List.setIfInBounds_toArray, List.set_cons_zero, List.set_cons_succ])
                      refine wpAnyH_take (i := 13) (oi := { dst := some 121, op := Op.move (Operand.tmp 9), type := 22, pos := "again.go:85", after := #[{ on := 9, ground := Ground.guard }], guard := some (9, true) }) (v := ?_) rfl (by kernel_rfl) (by kernel_rfl) (by kernel_rfl) (fun _ _ _ h => h) (Or.inl ⟨by rfl, ?hy13⟩) (by assumption) ?_
                      case hy13 => (intro w_ hSw; (try dsimp only at hSw); go_simp; try (with_reducible rfl))
                      (try simp only [Act.put, List.setIfInBounds_toArray, List.set_cons_zero, List.set_cons_succ])
                      refine wpAnyH_take (i := 14) (oi := { dst := some 122, op := Op.move (Operand.tmp 13), type := 3, pos := "again.go:85", after := #[{ on := 9, ground := Ground.guard }], guard := some (9, true) }) (v := ?_) rfl (by kernel_rfl) (by kernel_rfl) (by kernel_rfl) (fun _ _ _ h => h) (Or.inl ⟨by rfl, ?hy14⟩) (by assumption) ?_
                      case hy14 => (intro w_ hSw; (try dsimp only at hSw); go_simp; try (with_reducible rfl))
                      (try simp only [Act.put, List.setIfInBounds_toArray, List.set_cons_zero, List.set_cons_succ])
                      refine wpAnyH_take (i := 15) (oi := { dst := some 123, op := Op.indexAddr 22 (Operand.tmp 121) (Operand.tmp 122), type := 0, pos := "again.go:85", after := #[{ on := 13, ground := Ground.data }, { on := 14, ground := Ground.data }, { on := 9, ground := Ground.guard }], guard := some (9, true) }) (v := ?_) rfl (by kernel_rfl) (by kernel_rfl) (by kernel_rfl) (fun _ _ _ h => h) (Or.inl ⟨by rfl, ?hy15⟩) (by assumption) ?_
                      case hy15 => (intro w_ hSw; (try dsimp only at hSw); go_simp; try (with_reducible rfl))
                      (try simp only [Act.put, List.setIfInBounds_toArray, List.set_cons_zero, List.set_cons_succ])
                      refine wpAnyH_take (i := 16) (oi := { dst := some 124, op := Op.load 3 (Operand.tmp 123), type := 3, pos := "again.go:85", after := #[{ on := 15, ground := Ground.data }, { on := 9, ground := Ground.guard }], guard := some (9, true) }) (v := ?_) rfl (by kernel_rfl) (by kernel_rfl) (by kernel_rfl) (fun _ _ _ h => h) (Or.inl ⟨by rfl, ?hy16⟩) (by assumption) ?_
                      case hy16 => (intro w_ hSw; (try dsimp only at hSw); go_simp; try (with_reducible rfl))
                      (try simp only [Act.put, List.setIfInBounds_toArray, List.set_cons_zero, List.set_cons_succ])
                      refine wpAnyH_ready (rs := [12]) (by kernel_rfl) (by simp) ?_
                      refine AllReadyH.cons (o := { dst := some 120, op := Op.call { callee := Callee.value (Operand.func 33), args := #[Operand.tmp 118, Operand.tmp 119], argTypes := #[45, 3] }, type := 3, pos := "again.go:85", after := #[{ on := 10, ground := Ground.data }, { on := 11, ground := Ground.data }, { on := 9, ground := Ground.chain }, { on := 9, ground := Ground.guard }], guard := some (9, true) }) rfl (fun K_ hK => ?_) AllReadyH.nil
                      go_simp
                      (go_at_call 33; (with_reducible refine (above_calls HT7.out HWA.out).mono ?_); rw [HUP.out]; rintro e w8 ⟨rfl, hT, hK⟩; have HT8 := Aside0.mk hT; have HV8 := Aside0.mk (HV7.out.kt hK HFU.out.kt); have HB8 := Aside0.mk (HB7.out.kt hK HFB.out.kt); have hS8 : w8.cell? ⟨gu, y, none⟩ = some (.int .i64 (p : Int)) := (HV8.out.at_ c2 (v := .int .i64 (p : Int)) (by unfold treeArr; rw [if_pos ⟨hy1, hyi⟩, HHP.out])).1; clear hT hK)
                      first | refine hK.out _ _ ?kp12 (fun hHeld => ?_) | (go_wp2_with fail; refine hK.out _ _ ?kp12 (fun hHeld => ?_))
                      case kp12 => exact (by assumption)
                      clear hK K_
                      (try simp only [Act.put, List.setIfInBounds_toArray, List.set_cons_zero, List.set_cons_succ])
                      refine wpAnyH_take (i := 17) (oi := { dst := some 125, op := Op.binOp BinOp.neq 3 (Operand.tmp 120) (Operand.tmp 124) 3, type := 4, pos := "again.go:85", after := #[{ on := 12, ground := Ground.data }, { on := 16, ground := Ground.data }, { on := 9, ground := Ground.guard }], guard := some (9, true) }) (v := ?_) rfl (by kernel_rfl) (by kernel_rfl) (by kernel_rfl) (fun _ _ _ h => h) (Or.inl ⟨by rfl, ?hy17⟩) (by assumption) ?_
                      case hy17 => (intro w_ hSw; (try dsimp only at hSw); go_simp; try (with_reducible rfl))
                      (try simp only [Act.put, List.setIfInBounds_toArray, List.set_cons_zero, List.set_cons_succ])
                      refine wpAnyH_take (i := 18) (oi := { dst := some 126, op := Op.pick (Operand.tmp 117) (Operand.tmp 125) (Operand.const (Value.bool false)), type := 4, pos := "again.go:85", after := #[{ on := 9, ground := Ground.data }, { on := 17, ground := Ground.data }, { on := 5, ground := Ground.guard }], guard := some (5, false) }) (v := ?_) rfl (by kernel_rfl) (by kernel_rfl) (by kernel_rfl) (fun _ _ _ h => h) (Or.inl ⟨by rfl, ?hy18⟩) (by assumption) ?_
                      case hy18 => (intro w_ hSw; (try dsimp only at hSw); go_simp; try (with_reducible rfl))
                      (try simp only [Act.put, List.setIfInBounds_toArray, List.set_cons_zero, List.set_cons_succ])
                      refine wpAnyH_take (i := 19) (oi := { dst := some 127, op := Op.pick (Operand.tmp 113) (Operand.const (Value.bool true)) (Operand.tmp 126), type := 4, pos := "again.go:85", after := #[{ on := 5, ground := Ground.data }, { on := 18, ground := Ground.data }], guard := none }) (v := ?_) rfl (by kernel_rfl) (by kernel_rfl) (by kernel_rfl) (fun _ _ _ h => h) (Or.inl ⟨by rfl, ?hy19⟩) (by assumption) ?_
                      case hy19 => (intro w_ hSw; (try dsimp only at hSw); go_simp; try (with_reducible rfl))
                      (try simp only [Act.put, List.setIfInBounds_toArray, List.set_cons_zero, List.set_cons_succ])
                      refine wpAnyH_done (by kernel_rfl) ?_ _
                      go_wp2
                      go_roundg (i - y)
                      case measure => have h_ := HK2.out; clear hw2 hw3 hw5 hw6 hw7 hwy; omega
                      case rel =>
                        have h_ := HK2.out
                        exact ⟨y + 1, _, congrArg (Value.int .i64) hwy, ⟨by clear hw2 hw3 hw5 hw6 hw7 hwy; omega⟩, HT8, HV8, HB8, HBI⟩
              · as_aux_lemma =>
                  have hlt2 : ((y : Int) < (i : Int)) = False := eq_false (fun h => c2 (Int.ofNat_lt.1 h))
                  have HW0 := Aside0.mk (cutOff_w0 (u := u) HD.out HKI.out.1 HKI.out.2)
                  have HC0 : Aside0 ((0 : Int) ≤ 0 ∧ (0 : Int) < (D.N : Int) ∧ cutOff u (i : Int) (k : Int) (k : Int) = -1 ∧ put (cutOff u (i : Int) (k : Int)) (k : Int) (-1) 0 = -1) := ⟨by
                    have h_ := HKI.out
                    have h2_ := HD.out
                    refine ⟨by decide, by clear hw2 hw3 hw5 hw6 hw7; omega, cutOff_k, (put_ne (by clear hw2 hw3 hw5 hw6 hw7; omega)).trans (cutOff_0 h_.1)⟩⟩
                  go_wp2_with (first
                    | (go_at_call 32; (with_reducible refine (root_calls HT5.out HW0.out).mono ?_); rintro e w7 ⟨rfl, hT, hK⟩; have HT7 := Aside0.mk hT; clear hT hK)
                    | (go_at_call 31; (with_reducible refine (cut_no HT7.out HCK.out.1 HCK.out.2.1 HC0.out.2.2.1).mono ?_); rintro e w8 ⟨rfl, hT, hK⟩; have HT8 := Aside0.mk hT; clear hT hK)
                    | (go_at_call 31; (with_reducible refine (cut_no HT8.out HC0.out.1 HC0.out.2.1 HC0.out.2.2.2).mono ?_); rintro e w9 ⟨rfl, hT, hK⟩; have HT9 := Aside0.mk hT; clear hT hK))
                  go_ret
                  exact ⟨rfl, HT9.out.old⟩
end Go.Proofs.YtcnmbgijehnchaaW.Splay
