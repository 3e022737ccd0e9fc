/- SplaySorts: the law's walk (by hand). -/
import Derived.Test.YtcnmbgijehnchaaS26
import Derived.Test.YtcnmbgijehnchaaL1
import Derived.Deep.RegionHeld3
set_option linter.unusedVariables false
set_option linter.unusedSimpArgs false
namespace Go.Proofs.YtcnmbgijehnchaaW.Splay
open Go.RowKit Go.Shelf Go.Proofs.YtcnmbgijehnchaaW.PrintWords Go.Proofs.YtcnmbgijehnchaaW.PrintLast Go.Proofs.YtcnmbgijehnchaaW.PrintMore Go.Proofs.YtcnmbgijehnchaaW.Mine
attribute [local go_sem] max2_int min2_int max_two min_two max_three min_three max_four min_four Oper.semAt_some
def sqs (n : Nat) : List Int := (List.range n).map fun i : Nat => (i : Int) * (i : Int)
theorem sqs_take {n j : Nat} (h : j < n) : (sqs n).take (j + 1) = (sqs n).take j ++ [(j : Int) * (j : Int)] := by
  rw [List.take_add_one]
  simp [sqs, h]
theorem sqs_bd (n : Nat) (hn : n ≤ 1000) : ∀ v ∈ sqs n, -4611686018427387904 ≤ v ∧ v ≤ 4611686018427387904 := by
  intro v hv
  obtain ⟨i, hi, rfl⟩ := List.mem_map.1 hv
  have hi := List.mem_range.1 hi
  have h1 : (0 : Int) ≤ (i : Int) * (i : Int) := Int.mul_nonneg (by omega) (by omega)
  have h2 : (i : Int) * (i : Int) ≤ 1000 * 1000 := Int.mul_le_mul (by omega) (by omega) (by omega) (by omega)
  omega
theorem sq_wrap (i : Nat) (hi : i ≤ 1000) : wrap64 ((i : Int) * (i : Int)) = (i : Int) * (i : Int) := by
  have h1 : (0 : Int) ≤ (i : Int) * (i : Int) := Int.mul_nonneg (by omega) (by omega)
  have h2 : (i : Int) * (i : Int) ≤ 1000 * 1000 := Int.mul_le_mul (by omega) (by omega) (by omega) (by omega)
  unfold wrap64
  omega
set_option maxHeartbeats 16000000 in
set_option maxRecDepth 100000 in
theorem sorts_law {w : World} {c1 : Int} {A : Option Addr} {l : List Ac} {c : Nat} (hc1 : (Lit.int .i64 c1).wf = true) (hr : RdA w A l) :
    Calls Try.prog 5 #[.int .i64 c1, .slice A l.length c] w fun e w' => e = .returned (.bool true) ∧ Below w.heap.size w w' := by
  have HR := Aside0.mk hr
  clear hr
  by_cases c0 : 100 < l.length
  · have c1b : (100 : Int) < (l.length : Int) := by omega
    go_enter Try.func5, Try.ntmps5
    go_wp2_with (go_at_call 12; (with_reducible refine (shown_calls _).mono ?_); rintro e w1 ⟨rfl, hB⟩; have HB1 := Aside0.mk hB; clear hB)
    go_ret
    exact ⟨rfl, HB1.out⟩
  · obtain ⟨a1, a2⟩ := wf_bounds hc1
    have p1 := pk_range (c := c1) (n := 20) (by decide)
    obtain ⟨n, hn, hn2, hn3⟩ : ∃ n : Nat, pk c1 20 = ((n : Int) - 1) ∧ 1 ≤ n ∧ n < 21 := ⟨(pk c1 20 + 1).toNat, by omega, by omega, by omega⟩
    have hw2 : wrap64 (1 + ((n : Int) - 1)) = (n : Int) := by unfold wrap64; omega
    have hw5 : wrap64 (n : Int) = (n : Int) := by unfold wrap64; omega
    have hi2 : (1 + ((n : Int) - 1)) = (n : Int) := by omega
    have c1b : (l.length : Int) ≤ 100 := by omega
    have c1c : decide ((100 : Int) < (l.length : Int)) = false := decide_eq_false (by omega)
    have HN := Aside0.mk (And.intro hn2 hn3)
    have H1 := Aside0.mk (And.intro a1 a2)
    have HP1 := Aside0.mk hn
    have HC0 := Aside0.mk c0
    obtain ⟨vs, hvs⟩ : ∃ vs, sqs n = vs := ⟨_, rfl⟩
    have HVL : Aside0 (vs.length = n) := ⟨by rw [← hvs]; simp [sqs]⟩
    have HVS := Aside0.mk hvs
    clear hn hn2 hn3 a1 a2 p1 hvs hc1 c0
    go_enter Try.func5, Try.ntmps5
    go_wp2_with (first
      | (go_at_call 12; (with_reducible refine (shown_calls _).mono ?_); rintro e w1 ⟨rfl, hB⟩; have HB1 := Aside0.mk hB; clear hB)
      | (go_at_call 13; (with_reducible refine (pick_calls _ H1.out.1 H1.out.2 (by decide)).mono ?_); rw [HP1.out]; rintro e w' ⟨rfl, hw'⟩; have hw' := hw'.symm; subst hw'))
    clear c1c
    rw [hw5]
    go_loopg [7, 8] (n + 1) (fun kq v7 v8 wr => ∃ (j : Nat), v8 = .int .i64 (j : Int) ∧ Aside0 (j + kq = n + 1 ∧ 0 < kq) ∧ Aside0 (wr.ownsRow w.heap.size 2 1 v7 j (ints (vs.take j))) ∧ Aside0 (Below w.heap.size w wr))
    case atStart => exact ⟨0, rfl, ⟨by omega⟩, ⟨⟨rfl, .inl ⟨rfl, rfl⟩⟩⟩, HB1⟩
    case round =>
      clear HB1
      obtain ⟨j, rfl, HK, HO, HB⟩ := hrel
      obtain ⟨av, cv, ev⟩ := own_slice HO.out
      subst ev
      by_cases c5 : j < n
      · have hlt : (j : Int) < (n : Int) := by omega
        have HK2 : Aside0 (j + 1 + (n - j) = n + 1 ∧ 0 < n - j ∧ n - j < gk) := ⟨by have h_ := HK.out; omega⟩
        have HW1 := Aside0.mk (wr1 j (by have h_ := HN.out; omega))
        obtain ⟨p, hp⟩ : ∃ p, (j : Int) * (j : Int) = p := ⟨_, rfl⟩
        have hpw : wrap64 p = p := by rw [← hp]; exact sq_wrap j (by have h_ := HN.out; omega)
        have HTK : Aside0 (vs.take (j + 1) = vs.take j ++ [p]) := ⟨by rw [← HVS.out, sqs_take c5, hp]⟩
        have HQ : Aside0 (ints (vs.take j) ++ [.int .i64 p] = ints (vs.take j ++ [p])) := ⟨by simp [ints]⟩
        have hwz : w.heap.size ≤ wr.heap.size := HB.out.size
        have hjb : (j + 1) * 8 ≤ 140737488355328 := by have h_ := HN.out; omega
        go_wp2_with ((with_reducible refine gate_builtin (b := .append) (xs := #[.tmp 39, .tmp 43]) rfl ?_); at_builtin; refine print_append_cells (w0 := wr) w.heap.size rfl (.tmp 39) (.tmp 43) 24 2 (.int .i64 0) 1 8 rfl Try.underlying24 info_i64 rfl (by decide) (by decide) (.slice av j cv) j (ints (vs.take j)) [.int .i64 p] rfl rfl rfl ?aH ?aO (Below.refl _ _) ?aS ?aL ?_; (case aH => intro z hz; simp at hz; subst hz; rfl); (case aO => exact HO.out); (case aS => exact hwz); (case aL => exact hjb); intro v1 w5 ho hb5 hg hat; rw [HQ.out] at ho; obtain ⟨g5, c5, e5⟩ := ownsRow_succ ho; subst e5; have HO5 := Aside0.mk ho; have HB5 : Aside0 (Below w.heap.size w w5) := ⟨HB.out.grown hg HB.out.size (fun r e => (own_typed HO.out r e).1)⟩; clear ho hb5 hg hat)
        go_roundg (n - j)
        case measure => exact HK2.out.2.2
        case rel => exact ⟨j + 1, by first | rw [HW1.out] | rfl, ⟨⟨HK2.out.1, HK2.out.2.1⟩⟩, ⟨by rw [HTK.out]; exact HO5.out⟩, HB5⟩
      · obtain rfl : j = n := by have h_ := HK.out; omega
        have hge : (j : Int) ≤ (j : Int) := Int.le_refl _
        have hvr := HO.out
        rw [← HVL.out, List.take_length] at hvr
        obtain ⟨gv, cw, ev, hcw, _, hgv, _, hrv⟩ := own_row hvr (by have h_ := HN.out; have h2_ := HVL.out; omega)
        injection ev with ev1 ev2 ev3
        subst ev1
        obtain ⟨wb, rfl⟩ : ∃ wb, wb = wr := ⟨_, rfl⟩
        have HRV := Aside0.mk hrv
        have HCV : Aside0 (j ≤ cv) := ⟨by rw [HVL.out] at hcw; omega⟩
        clear hvr hcw ev3 hgv hrv
        have hsb := sqs_bd j (by have h_ := HN.out; omega)
        rw [HVS.out] at hsb
        have HVB := Aside0.mk hsb
        clear hsb
        go_wp2_with (go_at_call 14; refine (Fm.newn (w0 := wb) (vs := vs) HVL.out (Below.refl _ _) HRV.out.all (by have h_ := HN.out; omega) (by have h_ := HN.out; omega) HVB.out).mono ?_; rintro e w1 ⟨rfl, hB, gn, cap, hgn, hF⟩; have HF1 := Aside0.mk hF; clear hF hB)
        obtain ⟨gs, hgs⟩ : ∃ gs, wb.heap.size = gs := ⟨_, rfl⟩
        rw [hgs] at HF1 ⊢
        have HGV : Aside0 (gv ≠ gs ∧ gv ≠ gn) := ⟨by have h_ := HRV.out.lt; omega⟩
        clear hgs hgn
        have HV1 : Aside0 (Vok vs (ones vs)) := ⟨by
          intro W hW y hy
          obtain ⟨i, hi, rfl⟩ := List.mem_map.1 hW
          rw [List.mem_singleton.1 hy]
          simp⟩
        go_loopg [11] (l.length + 1) (fun kq v11 wq => ∃ (q : Nat) (Ws : List (List (Int × Int))), v11 = .int .i64 (q : Int) ∧ Aside0 (q + kq = l.length + 1 ∧ 0 < kq) ∧ Aside0 (Fm wb wq gs gn j cap Ws) ∧ Aside0 (Vok vs Ws))
        case atStart => exact ⟨0, _, rfl, ⟨by omega⟩, HF1, HV1⟩
        case round =>
          clear HF1 HV1
          obtain ⟨q, Ws, rfl, HK3, HF2, HV2⟩ := hrel
          by_cases c6 : q < l.length
          · have hlt : (q : Int) < (l.length : Int) := by omega
            have q0 : (0 : Int) ≤ (q : Int) := Int.natCast_nonneg q
            obtain ⟨a, ac, rfl, hac, ⟨wo, wx, wy, wd⟩, r0, r1, r2⟩ := HR.out.at (HB.out.trans (HF2.out.old.mono HB.out.size)) c6
            obtain ⟨oo, hoo⟩ : ∃ z, ac.op = z := ⟨_, rfl⟩
            obtain ⟨xx, hxx⟩ : ∃ z, ac.x = z := ⟨_, rfl⟩
            obtain ⟨yy, hyy⟩ : ∃ z, ac.y = z := ⟨_, rfl⟩
            rw [hoo] at wo r0
            rw [hxx] at wx r1
            rw [hyy] at wy r2
            have HWO := Aside0.mk (wf_bounds wo)
            have HWX := Aside0.mk (wf_bounds wx)
            have HWY := Aside0.mk (wf_bounds wy)
            have hjp : (0 : Int) < (j : Int) := by have h_ := HN.out; omega
            have px := pk_range (c := xx) hjp
            have py := pk_range (c := yy) hjp
            have po := pk_range (c := oo) (n := 4) (by decide)
            obtain ⟨x, hx⟩ : ∃ z, pk xx (j : Int) = z := ⟨_, rfl⟩
            obtain ⟨y, hy⟩ : ∃ z, pk yy (j : Int) = z := ⟨_, rfl⟩
            obtain ⟨o, ho⟩ : ∃ z, pk oo 4 = z := ⟨_, rfl⟩
            rw [hx] at px
            rw [hy] at py
            rw [ho] at po
            have hsz := HN.out.2
            have HPX := Aside0.mk hx
            have HPY := Aside0.mk hy
            have HK4 : Aside0 (q + 1 + (l.length - q) = l.length + 1 ∧ 0 < l.length - q ∧ l.length - q < gk) := ⟨by have h_ := HK3.out; omega⟩
            have HW1 := Aside0.mk (wr1 q (by have h_ := HC0.out; omega))
            obtain ⟨W, hW, hxW⟩ := HF2.out.row_of px.1 px.2
            obtain ⟨V, hV, hyV⟩ := HF2.out.row_of py.1 py.2
            have HLW := Aside0.mk (HF2.out.rlen hW)
            have HLV := Aside0.mk (HF2.out.rlen hV)
            have ho4 : (o = 0 ∨ o = 1) ∨ o = 2 ∨ o = 3 := by omega
            clear hac wo wx wy wd hoo hxx hyy hx hy px py po hsz
            rcases ho4 with ho4 | rfl | rfl
            · have o01 : ((o == 0) = true ∨ (o == 0) = false ∧ (o == 1) = true) := by
                rcases ho4 with rfl | rfl
                · exact .inl rfl
                · exact .inr ⟨rfl, rfl⟩
              have HPO := Aside0.mk ho
              clear ho ho4
              by_cases cWV : W = V
              · subst cWV
                rcases o01 with o1 | ⟨o1, o2⟩
                all_goals
                  go_wp2_with (first
                    | (go_at_call 13; (with_reducible refine (pick_calls _ HWX.out.1 HWX.out.2 hjp).mono ?_); rw [HPX.out]; rintro e w' ⟨rfl, hw'⟩; have hw' := hw'.symm; subst hw')
                    | (go_at_call 13; (with_reducible refine (pick_calls _ HWY.out.1 HWY.out.2 hjp).mono ?_); rw [HPY.out]; rintro e w' ⟨rfl, hw'⟩; have hw' := hw'.symm; subst hw')
                    | (go_at_call 13; (with_reducible refine (pick_calls _ HWO.out.1 HWO.out.2 (by decide)).mono ?_); rw [HPO.out]; rintro e w' ⟨rfl, hw'⟩; have hw' := hw'.symm; subst hw')
                    | (go_at_call 20; (with_reducible refine (HF2.out.rowc hW hxW).mono ?_); rintro e w1 ⟨g1, c1, rfl, hc1, hm1, hg1, hr1, hF, hb⟩; have HF3 := Aside0.mk hF; clear hF hb hr1 hg1 hc1 hm1 HF2)
                    | (go_at_call 20; (with_reducible refine (HF3.out.rowc hW hyV).mono ?_); rintro e w2 ⟨g2, c2, rfl, hc2, hm2, hg2, hr2, hF, hb⟩; have HF4 := Aside0.mk hF; clear hF hb hr2 hg2 hc2 hm2 HF3)
                    | (go_at_call 15; (with_reducible refine (HF4.out.join_same hW hxW hyV).mono ?_); rintro e w3 ⟨rfl, hF, hK⟩; have HF5 := Aside0.mk hF; clear hF hK HF4))
                  go_roundg (l.length - q)
                  case measure => exact HK4.out.2.2
                  case rel => exact ⟨q + 1, _, by first | rw [HW1.out] | rfl, ⟨⟨HK4.out.1, HK4.out.2.1⟩⟩, HF5, HV2⟩
              · rcases o01 with o1 | ⟨o1, o2⟩
                all_goals
                  have hww : wrap64 ((W.length : Int) + (V.length : Int)) = (W.length : Int) + (V.length : Int) := by have h1_ := HLW.out; have h2_ := HLV.out; have h3_ := HN.out; unfold wrap64; omega
                  go_wp2_with (first
                    | (go_at_call 13; (with_reducible refine (pick_calls _ HWX.out.1 HWX.out.2 hjp).mono ?_); rw [HPX.out]; rintro e w' ⟨rfl, hw'⟩; have hw' := hw'.symm; subst hw')
                    | (go_at_call 13; (with_reducible refine (pick_calls _ HWY.out.1 HWY.out.2 hjp).mono ?_); rw [HPY.out]; rintro e w' ⟨rfl, hw'⟩; have hw' := hw'.symm; subst hw')
                    | (go_at_call 13; (with_reducible refine (pick_calls _ HWO.out.1 HWO.out.2 (by decide)).mono ?_); rw [HPO.out]; rintro e w' ⟨rfl, hw'⟩; have hw' := hw'.symm; subst hw')
                    | (go_at_call 20; (with_reducible refine (HF2.out.rowc hW hxW).mono ?_); rintro e w1 ⟨g1, c1, rfl, hc1, hm1, hg1, hr1, hF, hb⟩; have HF3 := Aside0.mk hF; clear hF hb hr1 hg1 hc1 hm1 HF2)
                    | (go_at_call 20; (with_reducible refine (HF3.out.rowc hV hyV).mono ?_); rintro e w2 ⟨g2, c2, rfl, hc2, hm2, hg2, hr2, hF, hb⟩; have HF4 := Aside0.mk hF; clear hF hb hr2 hg2 hc2 hm2 HF3)
                    | (go_at_call 15; (with_reducible refine (HF4.out.act_join HV2.out hW hV hxW hyV cWV).mono ?_); rintro e w3 ⟨rfl, Us, U, hF, hK, hVU, hU, hxU, hlU⟩; have hlU2 : (U.length : Int) = (W.length : Int) + (V.length : Int) := (by rw [hlU]; exact Int.natCast_add _ _); have HF5 := Aside0.mk hF; have HV5 := Aside0.mk hVU; clear hF hK HF4 hVU hlU)
                    | (go_at_call 20; (with_reducible refine (HF5.out.rowc hU hxU).mono ?_); rintro e w4 ⟨g4, c4, rfl, hc4, hm4, hg4, hr4, hF, hb⟩; have HF6 := Aside0.mk hF; clear hF hb hr4 hg4 hc4 hm4 HF5))
                  go_roundg (l.length - q)
                  case measure => exact HK4.out.2.2
                  case rel => exact ⟨q + 1, _, by first | rw [HW1.out] | rfl, ⟨⟨HK4.out.1, HK4.out.2.1⟩⟩, HF6, HV5⟩
            · have HPO := Aside0.mk ho
              clear ho hV hyV HLV
              obtain ⟨L, v, R, e⟩ := part_at hxW
              subst e
              obtain ⟨nw, hnw⟩ : ∃ z, (L ++ (x, v) :: R).length = z := ⟨_, rfl⟩
              obtain ⟨ks, hks⟩ : ∃ z, (L ++ (x, v) :: R).map Prod.fst = z := ⟨_, rfl⟩
              have HKL : Aside0 (ks.length = nw ∧ L.length < nw ∧ nw ≤ 1000) := ⟨by
                have h1_ := HLW.out
                have h2_ := HN.out
                refine ⟨by rw [← hks, List.length_map, hnw], ?_, by omega⟩
                rw [← hnw, List.length_append, List.length_cons]
                omega⟩
              have HTK : Aside0 (ks.take L.length = L.map Prod.fst) := ⟨by rw [← hks, List.map_append, List.take_append_of_le_length (by rw [List.length_map]; exact Nat.le_refl _), ← List.length_map (f := Prod.fst), List.take_length]⟩
              have HDK : Aside0 (ks.drop L.length = ((x, v) :: R).map Prod.fst) := ⟨by rw [← hks, List.map_append, List.drop_append_of_le_length (by rw [List.length_map]; exact Nat.le_refl _), ← List.length_map (f := Prod.fst), List.drop_length, List.nil_append]⟩
              have HNW := Aside0.mk hnw
              have HKS := Aside0.mk hks
              obtain ⟨k, hk⟩ : ∃ z, L.length = z := ⟨_, rfl⟩
              obtain ⟨m, hm⟩ : ∃ z, ((x, v) :: R).length = z := ⟨_, rfl⟩
              have hmk : nw - k = m ∧ nw = k + m := by rw [← hnw, ← hk, ← hm, List.length_append]; omega
              have HM := Aside0.mk hm
              have HMK := Aside0.mk hmk
              have HKK := Aside0.mk hk
              rw [hk] at HKL HTK HDK
              have hX : x ∈ ((x, v) :: R).map Prod.fst := List.mem_cons_self
              clear hnw hks hm hmk HLW
              rcases Nat.eq_zero_or_pos k with rfl | hkp
              · have hL0 : L = [] := List.eq_nil_of_length_eq_zero hk
                subst hL0
                have hnw : nw = m := by have h_ := HMK.out; omega
                subst hnw
                have h00 : (0 : Int) ≤ (nw : Int) := Int.natCast_nonneg nw
                clear hk
                go_wp2_with (first
                  | (go_at_call 13; (with_reducible refine (pick_calls _ HWX.out.1 HWX.out.2 hjp).mono ?_); rw [HPX.out]; rintro e w' ⟨rfl, hw'⟩; have hw' := hw'.symm; subst hw')
                  | (go_at_call 13; (with_reducible refine (pick_calls _ HWY.out.1 HWY.out.2 hjp).mono ?_); rw [HPY.out]; rintro e w' ⟨rfl, hw'⟩; have hw' := hw'.symm; subst hw')
                  | (go_at_call 13; (with_reducible refine (pick_calls _ HWO.out.1 HWO.out.2 (by decide)).mono ?_); rw [HPO.out]; rintro e w' ⟨rfl, hw'⟩; have hw' := hw'.symm; subst hw')
                  | (go_at_call 21; (with_reducible refine (HF2.out.place hW).mono ?_); rw [HKK.out, show ((0 : Nat) : Int) = 0 from rfl]; rintro e w1 ⟨rfl, hF, hK⟩; have HF3 := Aside0.mk hF; clear hF hK HF2)
                  | (go_at_call 20; (with_reducible refine (HF3.out.rowc hW hxW).mono ?_); rw [HNW.out, HKS.out]; rintro e w2 ⟨g2, c2, rfl, hc2, hm2, hg2, hr2, hF, hb⟩; have HG2 : Aside0 (g2 ≠ gs ∧ g2 ≠ gn) := ⟨by have h_ := HF3.out.ke; omega⟩; have HC2 := Aside0.mk hc2; have HF4 := Aside0.mk hF; have HR2 := Aside0.mk hr2; clear hF hb hr2 hg2 hc2 hm2 HF3)
                  | (go_at_call 18; (with_reducible refine (HF4.out.act_split HV2.out hW).mono ?_); rintro e w3 ⟨rfl, Us, hF, hK, hVU, hU1, hU2⟩; have HR3 := Aside0.mk (HR2.out.ke hK HG2.out.1 HG2.out.2); have HF5 := Aside0.mk hF; have HV5 := Aside0.mk hVU; clear hF hK HF4 hVU HR2))
                have HF5d := Aside0.mk HF5.out.drew
                have HR3d := Aside0.mk (HR3.out.below (below_drew (Below.refl _ _)))
                have hd2 : decide (((x, v) :: R).map Prod.fst = ks) = true := decide_eq_true (by have h_ := HDK.out; rw [List.drop_zero] at h_; exact h_.symm)
                have hnc : (nw : Int) ≤ (c2 : Int) := by have h2_ := HC2.out; omega
                have hc20 : ¬ c2 = 0 := by have h1_ := HKL.out; have h2_ := HC2.out; omega
                clear HF5 HR3
                refine wp_region_held_drew (S := (fun W_ => True)) (by kernel_rfl) (show _ from trivial) (fun hHeld => ?_)
                refine wpAnyH_take (i := 0) (oi := { dst := some 122, op := Op.move (Operand.tmp 16), type := 3, pos := "more.go:37", after := #[], guard := none }) (v := ?_) rfl (by kernel_rfl) (by kernel_rfl) (by kernel_rfl) (fun _ _ _ h => h) (Or.inl ⟨by rfl, ?hy0⟩) (by assumption) ?_
                case hy0 => (intro w_ hSw; (try dsimp only at hSw); go_simp; try (with_reducible rfl))
                (try simp only [Act.put, List.setIfInBounds_toArray, List.set_cons_zero, List.set_cons_succ])
                refine wpAnyH_take (i := 1) (oi := { dst := some 123, op := Op.binOp BinOp.gtr 3 (Operand.tmp 122) (Operand.const (Value.int IntKind.i64 0)) 3, type := 4, pos := "more.go:37", after := #[{ on := 0, ground := Ground.data }], guard := none }) (v := ?_) rfl (by kernel_rfl) (by kernel_rfl) (by kernel_rfl) (fun _ _ _ h => h) (Or.inl ⟨by rfl, ?hy1⟩) (by assumption) ?_
                case hy1 => (intro w_ hSw; (try dsimp only at hSw); go_simp; try (with_reducible rfl))
                (try simp only [Act.put, List.setIfInBounds_toArray, List.set_cons_zero, List.set_cons_succ])
                refine wpAnyH_take (i := 2) (oi := { dst := some 124, op := Op.move (Operand.tmp 123), type := 4, pos := "more.go:37", after := #[{ on := 1, ground := Ground.data }], guard := none }) (v := ?_) rfl (by kernel_rfl) (by kernel_rfl) (by kernel_rfl) (fun _ _ _ h => h) (Or.inl ⟨by rfl, ?hy2⟩) (by assumption) ?_
                case hy2 => (intro w_ hSw; (try dsimp only at hSw); go_simp; try (with_reducible rfl))
                (try simp only [Act.put, List.setIfInBounds_toArray, List.set_cons_zero, List.set_cons_succ])
                refine wpAnyH_take (i := 3) (oi := { dst := some 125, op := Op.move (Operand.tmp 9), type := 26, pos := "more.go:37", after := #[{ on := 2, ground := Ground.guard }], guard := some (2, true) }) (v := undef) rfl (by kernel_rfl) (by kernel_rfl) (by kernel_rfl) (fun _ _ _ h => h) (Or.inr ⟨by rfl, rfl⟩) (by assumption) ?_
                (try simp only [Act.put, List.setIfInBounds_toArray, List.set_cons_zero, List.set_cons_succ])
                refine wpAnyH_take (i := 4) (oi := { dst := some 126, op := Op.move (Operand.tmp 17), type := 22, pos := "more.go:37", after := #[{ on := 2, ground := Ground.guard }], guard := some (2, true) }) (v := undef) rfl (by kernel_rfl) (by kernel_rfl) (by kernel_rfl) (fun _ _ _ h => h) (Or.inr ⟨by rfl, rfl⟩) (by assumption) ?_
                (try simp only [Act.put, List.setIfInBounds_toArray, List.set_cons_zero, List.set_cons_succ])
                refine wpAnyH_take (i := 5) (oi := { dst := some 127, op := Op.indexAddr 22 (Operand.tmp 126) (Operand.const (Value.int IntKind.i64 0)), type := 0, pos := "more.go:37", after := #[{ on := 4, ground := Ground.data }, { on := 2, ground := Ground.guard }], guard := some (2, true) }) (v := undef) rfl (by kernel_rfl) (by kernel_rfl) (by kernel_rfl) (fun _ _ _ h => h) (Or.inr ⟨by rfl, rfl⟩) (by assumption) ?_
                (try simp only [Act.put, List.setIfInBounds_toArray, List.set_cons_zero, List.set_cons_succ])
                refine wpAnyH_take (i := 6) (oi := { dst := some 128, op := Op.load 3 (Operand.tmp 127), type := 3, pos := "more.go:37", after := #[{ on := 5, ground := Ground.data }, { on := 2, ground := Ground.guard }], guard := some (2, true) }) (v := undef) rfl (by kernel_rfl) (by kernel_rfl) (by kernel_rfl) (fun _ _ _ h => h) (Or.inr ⟨by rfl, rfl⟩) (by assumption) ?_
                (try simp only [Act.put, List.setIfInBounds_toArray, List.set_cons_zero, List.set_cons_succ])
                refine wpAnyH_take (i := 7) (oi := { dst := some 129, op := Op.call { callee := Callee.value (Operand.func 20), args := #[Operand.tmp 125, Operand.tmp 128], argTypes := #[26, 3] }, type := 22, pos := "more.go:37", after := #[{ on := 3, ground := Ground.data }, { on := 6, ground := Ground.data }, { on := 2, ground := Ground.chain }, { on := 2, ground := Ground.guard }], guard := some (2, true) }) (v := undef) rfl (by kernel_rfl) (by kernel_rfl) (by kernel_rfl) (fun _ _ _ h => h) (Or.inr ⟨by rfl, rfl⟩) (by assumption) ?_
                (try simp only [Act.put, List.setIfInBounds_toArray, List.set_cons_zero, List.set_cons_succ])
                refine wpAnyH_take (i := 8) (oi := { dst := some 130, op := Op.move (Operand.tmp 17), type := 22, pos := "more.go:37", after := #[{ on := 2, ground := Ground.guard }], guard := some (2, true) }) (v := undef) rfl (by kernel_rfl) (by kernel_rfl) (by kernel_rfl) (fun _ _ _ h => h) (Or.inr ⟨by rfl, rfl⟩) (by assumption) ?_
                (try simp only [Act.put, List.setIfInBounds_toArray, List.set_cons_zero, List.set_cons_succ])
                refine wpAnyH_take (i := 9) (oi := { dst := some 131, op := Op.move (Operand.tmp 16), type := 3, pos := "more.go:37", after := #[{ on := 2, ground := Ground.guard }], guard := some (2, true) }) (v := undef) rfl (by kernel_rfl) (by kernel_rfl) (by kernel_rfl) (fun _ _ _ h => h) (Or.inr ⟨by rfl, rfl⟩) (by assumption) ?_
                (try simp only [Act.put, List.setIfInBounds_toArray, List.set_cons_zero, List.set_cons_succ])
                refine wpAnyH_take (i := 10) (oi := { dst := some 132, op := Op.slice 22 (Operand.tmp 130) none (some (Operand.tmp 131)) none, type := 22, pos := "more.go:37", after := #[{ on := 8, ground := Ground.data }, { on := 9, ground := Ground.data }, { on := 2, ground := Ground.guard }], guard := some (2, true) }) (v := undef) rfl (by kernel_rfl) (by kernel_rfl) (by kernel_rfl) (fun _ _ _ h => h) (Or.inr ⟨by rfl, rfl⟩) (by assumption) ?_
                (try simp only [Act.put, List.setIfInBounds_toArray, List.set_cons_zero, List.set_cons_succ])
                refine wpAnyH_take (i := 11) (oi := { dst := some 133, op := Op.call { callee := Callee.value (Operand.func 19), args := #[Operand.tmp 129, Operand.tmp 132], argTypes := #[22, 22] }, type := 4, pos := "more.go:37", after := #[{ on := 7, ground := Ground.data }, { on := 10, ground := Ground.data }, { on := 7, ground := Ground.chain }, { on := 2, ground := Ground.guard }], guard := some (2, true) }) (v := undef) rfl (by kernel_rfl) (by kernel_rfl) (by kernel_rfl) (fun _ _ _ h => h) (Or.inr ⟨by rfl, rfl⟩) (by assumption) ?_
                (try simp only [Act.put, List.setIfInBounds_toArray, List.set_cons_zero, List.set_cons_succ])
                refine wpAnyH_take (i := 12) (oi := { dst := some 134, op := Op.unOp UnOp.not 4 (Operand.tmp 133), type := 4, pos := "more.go:37", after := #[{ on := 11, ground := Ground.data }, { on := 2, ground := Ground.guard }], guard := some (2, true) }) (v := undef) rfl (by kernel_rfl) (by kernel_rfl) (by kernel_rfl) (fun _ _ _ h => h) (Or.inr ⟨by rfl, rfl⟩) (by assumption) ?_
                (try simp only [Act.put, List.setIfInBounds_toArray, List.set_cons_zero, List.set_cons_succ])
                refine wpAnyH_take (i := 13) (oi := { dst := some 135, op := Op.pick (Operand.tmp 124) (Operand.tmp 134) (Operand.const (Value.bool false)), type := 4, pos := "more.go:37", after := #[{ on := 2, ground := Ground.data }, { on := 12, ground := Ground.data }], guard := none }) (v := ?_) rfl (by kernel_rfl) (by kernel_rfl) (by kernel_rfl) (fun _ _ _ h => h) (Or.inl ⟨by rfl, ?hy13⟩) (by assumption) ?_
                case hy13 => (intro w_ hSw; (try dsimp only at hSw); go_simp; try (with_reducible rfl))
                (try simp only [Act.put, List.setIfInBounds_toArray, List.set_cons_zero, List.set_cons_succ])
                refine wpAnyH_take (i := 14) (oi := { dst := some 136, op := Op.move (Operand.tmp 135), type := 4, pos := "more.go:37", after := #[{ on := 13, ground := Ground.data }, { on := 11, ground := Ground.chain }], guard := none }) (v := ?_) rfl (by kernel_rfl) (by kernel_rfl) (by kernel_rfl) (fun _ _ _ h => h) (Or.inl ⟨by rfl, ?hy14⟩) (by assumption) ?_
                case hy14 => (intro w_ hSw; (try dsimp only at hSw); go_simp; try (with_reducible rfl))
                (try simp only [Act.put, List.setIfInBounds_toArray, List.set_cons_zero, List.set_cons_succ])
                refine wpAnyH_take (i := 15) (oi := { dst := some 137, op := Op.move (Operand.tmp 9), type := 26, pos := "more.go:37", after := #[{ on := 14, ground := Ground.guard }], guard := some (14, false) }) (v := ?_) rfl (by kernel_rfl) (by kernel_rfl) (by kernel_rfl) (fun _ _ _ h => h) (Or.inl ⟨by rfl, ?hy15⟩) (by assumption) ?_
                case hy15 => (intro w_ hSw; (try dsimp only at hSw); go_simp; try (with_reducible rfl))
                (try simp only [Act.put, List.setIfInBounds_toArray, List.set_cons_zero, List.set_cons_succ])
                refine wpAnyH_take (i := 16) (oi := { dst := some 138, op := Op.move (Operand.tmp 12), type := 3, pos := "more.go:37", after := #[{ on := 14, ground := Ground.guard }], guard := some (14, false) }) (v := ?_) rfl (by kernel_rfl) (by kernel_rfl) (by kernel_rfl) (fun _ _ _ h => h) (Or.inl ⟨by rfl, ?hy16⟩) (by assumption) ?_
                case hy16 => (intro w_ hSw; (try dsimp only at hSw); go_simp; try (with_reducible rfl))
                (try simp only [Act.put, List.setIfInBounds_toArray, List.set_cons_zero, List.set_cons_succ])
                refine wpAnyH_take (i := 18) (oi := { dst := some 140, op := Op.move (Operand.tmp 17), type := 22, pos := "more.go:37", after := #[{ on := 14, ground := Ground.guard }], guard := some (14, false) }) (v := ?_) rfl (by kernel_rfl) (by kernel_rfl) (by kernel_rfl) (fun _ _ _ h => h) (Or.inl ⟨by rfl, ?hy18⟩) (by assumption) ?_
                case hy18 => (intro w_ hSw; (try dsimp only at hSw); go_simp; try (with_reducible rfl))
                (try simp only [Act.put, List.setIfInBounds_toArray, List.set_cons_zero, List.set_cons_succ])
                refine wpAnyH_take (i := 19) (oi := { dst := some 141, op := Op.move (Operand.tmp 16), type := 3, pos := "more.go:37", after := #[{ on := 14, ground := Ground.guard }], guard := some (14, false) }) (v := ?_) rfl (by kernel_rfl) (by kernel_rfl) (by kernel_rfl) (fun _ _ _ h => h) (Or.inl ⟨by rfl, ?hy19⟩) (by assumption) ?_
                case hy19 => (intro w_ hSw; (try dsimp only at hSw); go_simp; try (with_reducible rfl))
                (try simp only [Act.put, List.setIfInBounds_toArray, List.set_cons_zero, List.set_cons_succ])
                refine wpAnyH_take (i := 20) (oi := { dst := some 142, op := Op.slice 22 (Operand.tmp 140) (some (Operand.tmp 141)) none none, type := 22, pos := "more.go:37", after := #[{ on := 18, ground := Ground.data }, { on := 19, ground := Ground.data }, { on := 14, ground := Ground.guard }], guard := some (14, false) }) (v := ?_) rfl (by kernel_rfl) (by kernel_rfl) (by kernel_rfl) (fun _ _ _ h => h) (Or.inl ⟨by rfl, ?hy20⟩) (by assumption) ?_
                case hy20 => (intro w_ hSw; (try dsimp only at hSw); go_simp; try (with_reducible rfl))
                (try simp only [Act.put, List.setIfInBounds_toArray, List.set_cons_zero, List.set_cons_succ])
                refine wpAnyH_ready (rs := [17]) (by kernel_rfl) (by simp) ?_
                refine AllReadyH.cons (o := { dst := some 139, op := Op.call { callee := Callee.value (Operand.func 20), args := #[Operand.tmp 137, Operand.tmp 138], argTypes := #[26, 3] }, type := 22, pos := "more.go:37", after := #[{ on := 15, ground := Ground.data }, { on := 16, ground := Ground.data }, { on := 14, ground := Ground.chain }, { on := 14, ground := Ground.guard }], guard := some (14, false) }) rfl (fun K_ hK => ?_) AllReadyH.nil
                go_simp
                (go_at_call 20; (with_reducible refine (HF5d.out.rowc hU1 hX).mono ?_); rw [HM.out]; rintro e w6 ⟨g6, c6, rfl, hc6, hm6, hg6, hr6, hF, hb⟩; have HF8 := Aside0.mk hF; have HR6 := Aside0.mk hr6; have HR6d := Aside0.mk (HR3d.out.below hb); clear hF hb hr6 hg6 hc6 hm6)
                first | refine hK.out _ _ ?kp17 (fun hHeld => ?_) | (go_wp2_with fail; refine hK.out _ _ ?kp17 (fun hHeld => ?_))
                case kp17 => exact trivial
                clear hK K_
                (try simp only [Act.put, List.setIfInBounds_toArray, List.set_cons_zero, List.set_cons_succ])
                refine wpAnyH_ready (rs := [21]) (by kernel_rfl) (by simp) ?_
                refine AllReadyH.cons (o := { dst := some 143, op := Op.call { callee := Callee.value (Operand.func 19), args := #[Operand.tmp 139, Operand.tmp 142], argTypes := #[22, 22] }, type := 4, pos := "more.go:37", after := #[{ on := 17, ground := Ground.data }, { on := 20, ground := Ground.data }, { on := 17, ground := Ground.chain }, { on := 14, ground := Ground.guard }], guard := some (14, false) }) rfl (fun K_ hK => ?_) AllReadyH.nil
                go_simp
                (go_at_call 19; (with_reducible refine (same_n (n := nw) (m := nw) (by have h_ := HM.out; rw [List.length_map]; exact h_) HKL.out.1 HR6.out.all HR6d.out.all (by have h_ := HKL.out; omega) (by have h_ := HKL.out; omega)).mono ?_); rw [hd2]; rintro e w7 ⟨rfl, hd⟩; have HF9 := Aside0.mk (HF8.out.below hd.below); clear hd)
                first | refine hK.out _ _ ?kp21 (fun hHeld => ?_) | (go_wp2_with fail; refine hK.out _ _ ?kp21 (fun hHeld => ?_))
                case kp21 => exact trivial
                clear hK K_
                (try simp only [Act.put, List.setIfInBounds_toArray, List.set_cons_zero, List.set_cons_succ])
                refine wpAnyH_take (i := 22) (oi := { dst := some 144, op := Op.unOp UnOp.not 4 (Operand.tmp 143), type := 4, pos := "more.go:37", after := #[{ on := 21, ground := Ground.data }, { on := 14, ground := Ground.guard }], guard := some (14, false) }) (v := ?_) rfl (by kernel_rfl) (by kernel_rfl) (by kernel_rfl) (fun _ _ _ h => h) (Or.inl ⟨by rfl, ?hy22⟩) (by assumption) ?_
                case hy22 => (intro w_ hSw; (try dsimp only at hSw); go_simp; try (with_reducible rfl))
                (try simp only [Act.put, List.setIfInBounds_toArray, List.set_cons_zero, List.set_cons_succ])
                refine wpAnyH_take (i := 23) (oi := { dst := some 145, op := Op.pick (Operand.tmp 136) (Operand.const (Value.bool true)) (Operand.tmp 144), type := 4, pos := "more.go:37", after := #[{ on := 14, ground := Ground.data }, { on := 22, ground := Ground.data }], guard := none }) (v := ?_) rfl (by kernel_rfl) (by kernel_rfl) (by kernel_rfl) (fun _ _ _ h => h) (Or.inl ⟨by rfl, ?hy23⟩) (by assumption) ?_
                case hy23 => (intro w_ hSw; (try dsimp only at hSw); go_simp; try (with_reducible rfl))
                (try simp only [Act.put, List.setIfInBounds_toArray, List.set_cons_zero, List.set_cons_succ])
                refine wpAnyH_done (by kernel_rfl) ?_ _
                clear hnc hc20 h00
                go_wp2
                go_roundg (l.length - q)
                case measure => exact HK4.out.2.2
                case rel => exact ⟨q + 1, _, by first | rw [HW1.out] | rfl, ⟨⟨HK4.out.1, HK4.out.2.1⟩⟩, HF9, HV5⟩
              · obtain ⟨⟨u, hu⟩, L', rfl⟩ : ∃ p L', L = p :: L' := by
                  cases L with
                  | nil => simp at hk; omega
                  | cons p L' => exact ⟨p, L', rfl⟩
                have hQ : u ∈ ((u, hu) :: L').map Prod.fst := List.mem_cons_self
                have HU0 : Aside0 (ks[0]? = some u) := ⟨by rw [← HKS.out]; rfl⟩
                have hk0 : (0 : Int) < (k : Int) := by omega
                have hkn : (k : Int) ≤ (nw : Int) := by have h_ := HKL.out; omega
                have hk00 : (0 : Int) ≤ (k : Int) := by omega
                have hn0 : (0 : Int) < (nw : Int) := by have h_ := HKL.out; omega
                clear hk
                go_wp2_with (first
                  | (go_at_call 13; (with_reducible refine (pick_calls _ HWX.out.1 HWX.out.2 hjp).mono ?_); rw [HPX.out]; rintro e w' ⟨rfl, hw'⟩; have hw' := hw'.symm; subst hw')
                  | (go_at_call 13; (with_reducible refine (pick_calls _ HWY.out.1 HWY.out.2 hjp).mono ?_); rw [HPY.out]; rintro e w' ⟨rfl, hw'⟩; have hw' := hw'.symm; subst hw')
                  | (go_at_call 13; (with_reducible refine (pick_calls _ HWO.out.1 HWO.out.2 (by decide)).mono ?_); rw [HPO.out]; rintro e w' ⟨rfl, hw'⟩; have hw' := hw'.symm; subst hw')
                  | (go_at_call 21; (with_reducible refine (HF2.out.place hW).mono ?_); rw [HKK.out]; rintro e w1 ⟨rfl, hF, hK⟩; have HF3 := Aside0.mk hF; clear hF hK HF2)
                  | (go_at_call 20; (with_reducible refine (HF3.out.rowc hW hxW).mono ?_); rw [HNW.out, HKS.out]; rintro e w2 ⟨g2, c2, rfl, hc2, hm2, hg2, hr2, hF, hb⟩; have HG2 : Aside0 (g2 ≠ gs ∧ g2 ≠ gn) := ⟨by have h_ := HF3.out.ke; omega⟩; have HC2 := Aside0.mk hc2; have HF4 := Aside0.mk hF; have HR2 := Aside0.mk hr2; clear hF hb hr2 hg2 hc2 hm2 HF3)
                  | (go_at_call 18; (with_reducible refine (HF4.out.act_split HV2.out hW).mono ?_); rintro e w3 ⟨rfl, Us, hF, hK, hVU, hU1, hU2⟩; have hU2 := hU2 (by simp); have HR3 := Aside0.mk (HR2.out.ke hK HG2.out.1 HG2.out.2); have HF5 := Aside0.mk hF; have HV5 := Aside0.mk hVU; have hc30 := HR3.out.get HU0.out; clear hF hK HF4 hVU HR2))
                have HF5d := Aside0.mk HF5.out.drew
                have HR3d := Aside0.mk (HR3.out.below (below_drew (Below.refl _ _)))
                have hd1 : decide (((u, hu) :: L').map Prod.fst = ks.take k) = true := decide_eq_true HTK.out.symm
                have hd2 : decide (((x, v) :: R).map Prod.fst = ks.drop k) = true := decide_eq_true HDK.out.symm
                have hkc : (k : Int) ≤ (c2 : Int) := by have h1_ := HKL.out; have h2_ := HC2.out; omega
                have hnc : (nw : Int) ≤ (c2 : Int) := by have h2_ := HC2.out; omega
                have hkt : ((k : Int)).toNat = k := Int.toNat_natCast k
                have hn0N : 0 < nw := by have h_ := HKL.out; omega
                have hck : ¬ c2 = k := by have h1_ := HKL.out; have h2_ := HC2.out; omega
                have hck2 : ¬ k = c2 := fun e => hck e.symm
                have hck3 : (k : Int) < (c2 : Int) := by have h1_ := HKL.out; have h2_ := HC2.out; omega
                clear HF5 HR3
                go_region_held3 (fun W_ => W_.cell? ⟨g2, 0, none⟩ = some (.int .i64 u)) (first | assumption | go_keep)
                  (first
                    | (go_at_call 20; (with_reducible refine (HF5d.out.rowc hU2 hQ).mono ?_); rw [HKK.out]; rintro e w4 ⟨g4, c4, rfl, hc4, hm4, hg4, hr4, hF, hb⟩; have hc40 := (HR3d.out.below hb).get HU0.out; have HF6 := Aside0.mk hF; have HR4 := Aside0.mk hr4; have HR4d := Aside0.mk (HR3d.out.below hb); clear hF hb hr4 hg4 hc4 hm4)
                    | (go_at_call 19; (with_reducible refine (same_n (n := k) (m := k) (by have h_ := HKK.out; rw [List.length_map]; exact h_) (by rw [List.length_take]; have h_ := HKL.out; omega) HR4.out.all (HR4d.out.take k) (by have h_ := HKL.out; omega) (by have h_ := HKL.out; omega)).mono ?_); rw [hd1]; rintro e w5 ⟨rfl, hd⟩; have hc50 := (HR4d.out.below hd.below).get HU0.out; have HF7 := Aside0.mk (HF6.out.below hd.below); have HR5d := Aside0.mk (HR4d.out.below hd.below); clear hd)
                    | (go_at_call 20; (with_reducible refine (HF7.out.rowc hU1 hX).mono ?_); rw [HM.out]; rintro e w6 ⟨g6, c6, rfl, hc6, hm6, hg6, hr6, hF, hb⟩; have hc60 := (HR5d.out.below hb).get HU0.out; have HF8 := Aside0.mk hF; have HR6 := Aside0.mk hr6; have HR6d := Aside0.mk (HR5d.out.below hb); clear hF hb hr6 hg6 hc6 hm6)
                    | (go_at_call 19; (with_reducible refine (same_n (n := m) (m := nw - k) (by have h_ := HM.out; rw [List.length_map]; exact h_) (by rw [List.length_drop, HKL.out.1]) HR6.out.all (HR6d.out.drop k) (by have h_ := HKL.out; have h2_ := HMK.out; omega) (by have h_ := HKL.out; omega)).mono ?_); rw [hd2]; rintro e w7 ⟨rfl, hd⟩; have hc70 := (HR6d.out.below hd.below).get HU0.out; have HF9 := Aside0.mk (HF8.out.below hd.below); clear hd))
                clear hn0 hn0N hkn hkc hnc hck hck2 hck3 hk0 hk00
                go_wp2
                go_roundg (l.length - q)
                case measure => exact HK4.out.2.2
                case rel => exact ⟨q + 1, _, by first | rw [HW1.out] | rfl, ⟨⟨HK4.out.1, HK4.out.2.1⟩⟩, HF9, HV5⟩
            · have HPO := Aside0.mk ho
              clear ho hV hyV HLV
              go_wp2_with (first
                | (go_at_call 13; (with_reducible refine (pick_calls _ HWX.out.1 HWX.out.2 hjp).mono ?_); rw [HPX.out]; rintro e w' ⟨rfl, hw'⟩; have hw' := hw'.symm; subst hw')
                | (go_at_call 13; (with_reducible refine (pick_calls _ HWY.out.1 HWY.out.2 hjp).mono ?_); rw [HPY.out]; rintro e w' ⟨rfl, hw'⟩; have hw' := hw'.symm; subst hw')
                | (go_at_call 13; (with_reducible refine (pick_calls _ HWO.out.1 HWO.out.2 (by decide)).mono ?_); rw [HPO.out]; rintro e w' ⟨rfl, hw'⟩; have hw' := hw'.symm; subst hw')
                | (go_at_call 17; (with_reducible refine (HF2.out.act_turn HV2.out hW hxW).mono ?_); rintro e w1 ⟨⟨v1, rfl⟩, Us, hF, hK, hVU⟩; have HF3 := Aside0.mk hF; have HV3 := Aside0.mk hVU; clear hF hK HF2 hVU))
              go_roundg (l.length - q)
              case measure => exact HK4.out.2.2
              case rel => exact ⟨q + 1, _, by first | rw [HW1.out] | rfl, ⟨⟨HK4.out.1, HK4.out.2.1⟩⟩, HF3, HV3⟩
          · have hge : (l.length : Int) ≤ (q : Int) := by omega
            have hge2 : decide ((q : Int) < (l.length : Int)) = false := decide_eq_false (by omega)
            have hge2n : decide (q < l.length) = false := decide_eq_false c6
            clear c6
            go_wp2
            try rw [hge2n]
            go_loopg [18] (j + 1) (fun kq v18 wq => ∃ (i : Nat), v18 = .int .i64 (i : Int) ∧ Aside0 (i + kq = j + 1 ∧ 0 < kq) ∧ Aside0 (Fm wb wq gs gn j cap Ws))
            case atStart => exact ⟨0, rfl, ⟨by omega⟩, HF2⟩
            case round =>
              clear HF2 hge hge2
              obtain ⟨i, rfl, HK5, HF⟩ := hrel
              by_cases c7 : i < j
              · have hlt : (i : Int) < (j : Int) := by omega
                have i0 : (0 : Int) ≤ (i : Int) := Int.natCast_nonneg i
                obtain ⟨W, hW, hxW⟩ := HF.out.row_of i0 hlt
                obtain ⟨k, hkn, hks⟩ := key_find hxW
                obtain ⟨m, hm⟩ : ∃ m, W.length = m + 1 := ⟨W.length - 1, by omega⟩
                obtain ⟨y0, hy0, _⟩ := key_at hm (k := 0) (by omega)
                obtain ⟨y1, hy1, _⟩ := key_at hm (k := m) (by omega)
                have hval := HV2.out.pair hW hxW
                obtain ⟨vi, hvi⟩ : ∃ z, vs.getD i 0 = z := ⟨_, rfl⟩
                have hgi : vs[i]? = some vi := by rw [← hvi, getD_at (by rw [HVL.out]; exact c7)]; exact List.getElem?_eq_getElem _
                rw [hvi] at hval
                have HLW := Aside0.mk (HF.out.rlen hW)
                have HK6 : Aside0 (i + 1 + (j - i) = j + 1 ∧ 0 < j - i ∧ j - i < gk) := ⟨by have h_ := HK5.out; omega⟩
                have HW1 := Aside0.mk (wr1 i (by have h_ := HN.out; omega))
                have HM := Aside0.mk hm
                have HGI := Aside0.mk hgi
                have HKS := Aside0.mk hks
                have HY0 := Aside0.mk hy0
                have HY1 := Aside0.mk hy1
                have hkm : (k : Int) < (m : Int) + 1 := by omega
                have hkm2 : ¬ (m : Int) + 1 ≤ (k : Int) := by omega
                have hk0 : (0 : Int) ≤ (k : Int) := by omega
                have hk1 : ¬ (k : Int) < 0 := by omega
                have hm0 : (0 : Int) < (m : Int) + 1 := by omega
                have hm1000 : m ≤ 1000000 := by have h_ := HLW.out; have h2_ := HN.out; clear hlt i0 hxW hks hy0 hy1 hgi hval; omega
                obtain ⟨hmw, hmw3, hmw4, hmw5, hmw6⟩ := wr3 m hm1000
                have hmt : ((m : Int)).toNat = m := Int.toNat_natCast m
                have hmtn : (m : Int) < ((m + 1 : Nat) : Int) := Int.ofNat_lt.2 (Nat.lt_succ_self m)
                have hmw2 : (m : Int) + 1 - 1 = (m : Int) := Int.add_sub_cancel _ _
                clear hm1000
                have hmm : (m : Int) < (m : Int) + 1 := by omega
                have hm00 : (0 : Int) ≤ (m : Int) := Int.natCast_nonneg m
                have hd1 : decide ((m : Int) + 1 ≤ (k : Int)) = false := decide_eq_false hkm2
                have hd2 : decide (m + 1 ≤ k) = false := decide_eq_false (fun e => hkm2 (by exact_mod_cast e))
                have hd3 : decide (m < k) = false := hd2
                have hd4 : decide ((m : Int) < (k : Int)) = false := hd1
                have hd5 : k ≤ m := Nat.le_of_not_lt (of_decide_eq_false hd3)
                have hd6 : decide ((k : Int) < 0) = false := decide_eq_false hk1
                clear hm hks hy0 hy1 hgi hvi hkn
                go_wp2_with (first
                  | (go_at_call 20; (with_reducible refine (HF.out.rowc hW hxW).mono ?_); rw [HM.out]; rintro e w2 ⟨g2, c2, rfl, hc2, hm2, hg2, hr2, hF, hb⟩; have HG2 : Aside0 (g2 ≠ gs ∧ g2 ≠ gn) := ⟨by have h_ := HF.out.ke; omega⟩; have HF2 := Aside0.mk hF; have HR2 := Aside0.mk hr2; clear hF hb hr2 hg2 hc2 hm2 HF)
                  | (go_at_call 21; (with_reducible refine (HF2.out.place_i hW HKS.out).mono ?_); rintro e w3 ⟨rfl, hF, hK⟩; have HF3 := Aside0.mk hF; have HR3 := Aside0.mk (HR2.out.ke hK HG2.out.1 HG2.out.2); clear hF hK HF2 HR2))
                have HF3d := Aside0.mk HF3.out.drew
                have HR3d := Aside0.mk (HR3.out.below (below_drew (Below.refl _ _)))
                have HVd := Aside0.mk (HRV.out.below HF3d.out.old)
                have hS3 : w3.drew.cell? ⟨g2, k, none⟩ = some (.int .i64 (i : Int)) ∧ w3.drew.cell? ⟨g2, 0, none⟩ = some (.int .i64 y0) ∧ w3.drew.cell? ⟨g2, m, none⟩ = some (.int .i64 y1) ∧ w3.drew.cell? ⟨gv, i, none⟩ = some (.int .i64 vi) := ⟨HR3d.out.get HKS.out, HR3d.out.get HY0.out, HR3d.out.get HY1.out, HVd.out.get HGI.out⟩
                clear HF3 HR3
                go_region_held3 (fun W_ => W_.cell? ⟨g2, k, none⟩ = some (.int .i64 (i : Int)) ∧ W_.cell? ⟨g2, 0, none⟩ = some (.int .i64 y0) ∧ W_.cell? ⟨g2, m, none⟩ = some (.int .i64 y1) ∧ W_.cell? ⟨gv, i, none⟩ = some (.int .i64 vi)) (first | assumption | go_keep)
                  (first
                    | (go_at_call 22; (with_reducible refine (HF3d.out.at_i hW hxW HKS.out).mono ?_); rintro e w4 ⟨rfl, hF, hK⟩; have HR4 := Aside0.mk (HR3d.out.ke hK HG2.out.1 HG2.out.2); have HV4 := Aside0.mk (HRV.out.below hF.old); have hS4 : w4.cell? ⟨g2, k, none⟩ = some (.int .i64 (i : Int)) ∧ w4.cell? ⟨g2, 0, none⟩ = some (.int .i64 y0) ∧ w4.cell? ⟨g2, m, none⟩ = some (.int .i64 y1) ∧ w4.cell? ⟨gv, i, none⟩ = some (.int .i64 vi) := ⟨HR4.out.get HKS.out, HR4.out.get HY0.out, HR4.out.get HY1.out, HV4.out.get HGI.out⟩; have HF4 := Aside0.mk hF; clear hF hK)
                    | (go_at_call 23; (with_reducible refine (HF4.out.first_i hW hxW HY0.out).mono ?_); rintro e w5 ⟨rfl, hF, hK⟩; have HR5 := Aside0.mk (HR4.out.ke hK HG2.out.1 HG2.out.2); have HV5 := Aside0.mk (HRV.out.below hF.old); have hS5 : w5.cell? ⟨g2, k, none⟩ = some (.int .i64 (i : Int)) ∧ w5.cell? ⟨g2, 0, none⟩ = some (.int .i64 y0) ∧ w5.cell? ⟨g2, m, none⟩ = some (.int .i64 y1) ∧ w5.cell? ⟨gv, i, none⟩ = some (.int .i64 vi) := ⟨HR5.out.get HKS.out, HR5.out.get HY0.out, HR5.out.get HY1.out, HV5.out.get HGI.out⟩; have HF5 := Aside0.mk hF; clear hF hK)
                    | (go_at_call 24; (with_reducible refine (HF5.out.last_i hW hxW HM.out HY1.out).mono ?_); rintro e w6 ⟨rfl, hF, hK⟩; have HR6 := Aside0.mk (HR5.out.ke hK HG2.out.1 HG2.out.2); have HV6 := Aside0.mk (HRV.out.below hF.old); have hS6 : w6.cell? ⟨g2, k, none⟩ = some (.int .i64 (i : Int)) ∧ w6.cell? ⟨g2, 0, none⟩ = some (.int .i64 y0) ∧ w6.cell? ⟨g2, m, none⟩ = some (.int .i64 y1) ∧ w6.cell? ⟨gv, i, none⟩ = some (.int .i64 vi) := ⟨HR6.out.get HKS.out, HR6.out.get HY0.out, HR6.out.get HY1.out, HV6.out.get HGI.out⟩; have HF6 := Aside0.mk hF; clear hF hK)
                    | (go_at_call 25; (with_reducible refine (HF6.out.value hW hval).mono ?_); rintro e w7 ⟨rfl, hF, hK⟩; have HR7 := Aside0.mk (HR6.out.ke hK HG2.out.1 HG2.out.2); have HV7 := Aside0.mk (HRV.out.below hF.old); have hS7 : w7.cell? ⟨g2, k, none⟩ = some (.int .i64 (i : Int)) ∧ w7.cell? ⟨g2, 0, none⟩ = some (.int .i64 y0) ∧ w7.cell? ⟨g2, m, none⟩ = some (.int .i64 y1) ∧ w7.cell? ⟨gv, i, none⟩ = some (.int .i64 vi) := ⟨HR7.out.get HKS.out, HR7.out.get HY0.out, HR7.out.get HY1.out, HV7.out.get HGI.out⟩; have HF7 := Aside0.mk hF; clear hF hK))
                clear hd1 hd2 hd3 hd4 hd5 hd6 hkm hkm2 hk0 hk1 hm0 hmw hmw2 hmw3 hmw4 hmw5 hmw6 hmt hmtn hmm hm00 hS3 hS4 hS5 hS6 hS7
                clear HF3d HF4 HF5 HF6 HR3d HR4 HR5 HR6 HVd HV4 HV5 HV6 HV7
                go_wp2
                go_loopg [21] (m + 2) (fun kq v21 wq => ∃ (p : Nat), v21 = .int .i64 (p : Int) ∧ Aside0 (p + kq = m + 2 ∧ 0 < kq) ∧ Aside0 (Fm wb wq gs gn j cap Ws) ∧ Aside0 (RowC wq g2 (W.map Prod.fst)))
                case atStart => exact ⟨0, rfl, ⟨by omega⟩, HF7, HR7⟩
                case round =>
                  clear HF7 HR7
                  obtain ⟨p, rfl, HK7, HF8, HR8⟩ := hrel
                  by_cases c8 : p < m + 1
                  · obtain ⟨y, hy, _⟩ := key_at HM.out c8
                    have HY := Aside0.mk hy
                    have hp1 : (p : Int) < (m : Int) + 1 := by omega
                    have hp2 : (p : Int) < ((m + 1 : Nat) : Int) := by omega
                    have hp0 : (0 : Int) ≤ (p : Int) := Int.natCast_nonneg p
                    have HK8 : Aside0 (p + 1 + (m + 1 - p) = m + 2 ∧ 0 < m + 1 - p ∧ m + 1 - p < gk) := ⟨by have h_ := HK7.out; omega⟩
                    have HW2 := Aside0.mk (wr1 p (by have h_ := HLW.out; have h2_ := HN.out; have h3_ := HM.out; omega))
                    clear hy
                    go_wp2
                    have HF8d := Aside0.mk HF8.out.drew
                    have HR8d := Aside0.mk (HR8.out.below (below_drew (Below.refl _ _)))
                    have hT8 : wr.drew.cell? ⟨g2, p, none⟩ = some (.int .i64 y) := HR8d.out.get HY.out
                    clear HF8 HR8
                    go_region_held3 (fun W_ => W_.cell? ⟨g2, p, none⟩ = some (.int .i64 y)) (first | assumption | go_keep)
                      (first
                        | (go_at_call 22; (with_reducible refine (HF8d.out.at_i hW hxW HY.out).mono ?_); rintro e w9 ⟨rfl, hF, hK⟩; have HR9 := Aside0.mk (HR8d.out.ke hK HG2.out.1 HG2.out.2); have hT9 := HR9.out.get HY.out; have HF9 := Aside0.mk hF; clear hF hK)
                        | (go_at_call 21; (with_reducible refine (HF9.out.place_i hW HY.out).mono ?_); rintro e wa ⟨rfl, hF, hK⟩; have HRa := Aside0.mk (HR9.out.ke hK HG2.out.1 HG2.out.2); have hTa := HRa.out.get HY.out; have HFa := Aside0.mk hF; clear hF hK))
                    clear hT8 hT9 hTa hp1 hp2 hp0
                    go_wp2
                    go_roundg (m + 1 - p)
                    case measure => exact HK8.out.2.2
                    case rel => exact ⟨p + 1, by first | rw [HW2.out] | rfl, ⟨⟨HK8.out.1, HK8.out.2.1⟩⟩, HFa, HRa⟩
                  · have hge2 : decide ((p : Int) < (m : Int) + 1) = false := decide_eq_false (by omega)
                    have hge : (m : Int) + 1 ≤ (p : Int) := by omega
                    go_wp2
                    go_roundg (j - i)
                    case measure => exact HK6.out.2.2
                    case rel => exact ⟨i + 1, by first | rw [HW1.out] | rfl, ⟨⟨HK6.out.1, HK6.out.2.1⟩⟩, HF8⟩
              · have hge2 : decide ((i : Int) < (j : Int)) = false := decide_eq_false (by omega)
                have hge : (j : Int) ≤ (i : Int) := by omega
                go_wp2
                go_ret
                exact ⟨rfl, HB.out.trans (HF.out.old.mono HB.out.size)⟩
end Go.Proofs.YtcnmbgijehnchaaW.Splay
