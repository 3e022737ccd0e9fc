/- SplayLeast: the law's walk (by hand). -/
import Derived.Test.YtcnmbgijehnchaaS22
set_option linter.unusedVariables false
set_option linter.unusedSimpArgs false
namespace Go.Proofs.YtcnmbgijehnchaaW.Splay
open Go.RowKit Go.Shelf Go.Proofs.YtcnmbgijehnchaaW.PrintWords Go.Proofs.YtcnmbgijehnchaaW.PrintLast Go.Proofs.YtcnmbgijehnchaaW.PrintMore Go.Proofs.YtcnmbgijehnchaaW.Mine
attribute [local go_sem] max2_int min2_int max_two min_two max_three min_three max_four min_four Oper.semAt_some
theorem info_i64 : (Try.prog.info? 2).map (fun i => (i.zero, i.size, i.bytes)) = some (some (.int .i64 0), 1, 8) := by kernel_rfl
set_option maxHeartbeats 16000000 in
set_option maxRecDepth 100000 in
theorem least_law {w : World} {A : Option Addr} {l : List Int} {c : Nat} (hr : Rds w A l) (hwf : ∀ x ∈ l, (Lit.int .i64 x).wf = true) (hlc : l.length ≤ 140737488351232) :
    Calls Try.prog 3 #[.slice A l.length c] w fun e w' => e = .returned (.bool true) ∧ Below w.heap.size w w' := by
  have HR := Aside0.mk hr
  have HW := Aside0.mk hwf
  clear hr hwf
  by_cases c0 : l.length = 0
  · have c0b : ((l.length : Int) == 0) = true := by simp [c0]
    go_enter Try.func3, Try.ntmps3
    go_wp2_with (go_at_call 12; (with_reducible refine (shown_calls _).mono ?_); rintro e w1 ⟨rfl, hB⟩; have HB1 := Aside0.mk hB; clear hB)
    go_ret
    exact ⟨rfl, HB1.out⟩
  · by_cases c1 : 100 < l.length
    · have c0b : ((l.length : Int) == 0) = false := beq_eq_false_iff_ne.mpr (by omega)
      have c1b : (100 : Int) < (l.length : Int) := by omega
      go_enter Try.func3, Try.ntmps3
      go_wp2_with (go_at_call 12; (with_reducible refine (shown_calls _).mono ?_); rintro e w1 ⟨rfl, hB⟩; have HB1 := Aside0.mk hB; clear hB)
      go_ret
      exact ⟨rfl, HB1.out⟩
    · have c0b : ((l.length : Int) == 0) = false := beq_eq_false_iff_ne.mpr (by omega)
      have c1b : (l.length : Int) ≤ 100 := by omega
      have c1c : decide ((100 : Int) < (l.length : Int)) = false := decide_eq_false (by omega)
      obtain ⟨vs, hvs⟩ : ∃ vs, l.map (fun x => pk x 4) = vs := ⟨_, rfl⟩
      have hvl : vs.length = l.length := by rw [← hvs]; simp
      have HVS := Aside0.mk hvs
      have HVL := Aside0.mk hvl
      clear hvs hvl
      go_enter Try.func3, Try.ntmps3
      go_wp2_with (go_at_call 12; (with_reducible refine (shown_calls _).mono ?_); rintro e w1 ⟨rfl, hB⟩; have HB1 := Aside0.mk hB; clear hB)
      clear c0b c1c
      go_loopg [4, 5, 6, 7] (l.length + 1) (fun kq v4 v5 v6 v7 wr => ∃ (j f b : Nat), v5 = .int .i64 (f : Int) ∧ v6 = .int .i64 (b : Int) ∧ v7 = .int .i64 (j : Int) ∧ Aside0 (j + kq = l.length + 1 ∧ 0 < kq) ∧ Aside0 (Mins vs j f b) ∧ Aside0 (wr.ownsRow w.heap.size 2 1 v4 j (ints (vs.take j))) ∧ Aside0 (Below w.heap.size w wr))
      case atStart => exact ⟨0, 0, 0, rfl, rfl, rfl, ⟨by omega⟩, ⟨Mins.none vs⟩, ⟨⟨rfl, .inl ⟨rfl, rfl⟩⟩⟩, HB1⟩
      case round =>
        obtain ⟨j, f, b, rfl, rfl, rfl, HK, HM, HO, HB⟩ := hrel
        obtain ⟨av, cv, ev⟩ := own_slice HO.out
        subst ev
        by_cases c5 : j < l.length
        · have hlt : (j : Int) < (l.length : Int) := by omega
          have j0 : (0 : Int) ≤ (j : Int) := Int.natCast_nonneg j
          obtain ⟨a, rfl, hca⟩ := (HR.out.below HB.out).at c5
          obtain ⟨u, hu⟩ : ∃ u, l[j] = u := ⟨_, rfl⟩
          have hwu := wf_bounds (HW.out u (hu ▸ List.getElem_mem c5))
          rw [hu] at hca
          obtain ⟨p, hp⟩ : ∃ p, pk u 4 = p := ⟨_, rfl⟩
          have hpr := pk_range (c := u) (n := 4) (by omega)
          have hv : vs.getD j 0 = p := by
            rw [← HVS.out, getD_at (by simpa using c5), List.getElem_map, hu, hp]
          have htk : vs.take (j + 1) = vs.take j ++ [p] := by
            rw [List.take_add_one, List.getElem?_eq_getElem (by have h_ := HVL.out; omega), ← hv, getD_at (by have h_ := HVL.out; omega)]
            rfl
          have hfj : f ≤ j ∧ b ≤ j := by
            rcases Nat.eq_zero_or_pos j with e | e
            · have h_ := HM.out.zero e; omega
            · have h_ := HM.out.lt e; omega
          have HP := Aside0.mk hp
          have hst := HM.out.step
          rw [hv] at hst
          obtain ⟨pf, hpf⟩ : ∃ z, vs.getD f 0 = z := ⟨_, rfl⟩
          obtain ⟨pb, hpb⟩ : ∃ z, vs.getD b 0 = z := ⟨_, rfl⟩
          rw [hpf, hpb] at hst
          have tk : ∀ z, z ≤ j → (vs.take j ++ [p]).getD z 0 = vs.getD z 0 := fun z hz => by
            rw [← htk, List.getD_eq_getElem?_getD, List.getElem?_take, if_pos (by omega), ← List.getD_eq_getElem?_getD]
          have HT := Aside0.mk (And.intro (tk f hfj.1) (tk b hfj.2))
          rw [hpf, hpb] at HT
          have HTL : Aside0 ((vs.take j ++ [p]).length = j + 1) := ⟨by rw [← htk, List.length_take, HVL.out]; clear hwu hpr; omega⟩
          have HTK := Aside0.mk htk
          have HFJ := Aside0.mk hfj
          have HST := Aside0.mk hst
          have f0 : (0 : Int) ≤ (f : Int) := Int.natCast_nonneg f
          have b0 : (0 : Int) ≤ (b : Int) := Int.natCast_nonneg b
          have f1 : (f : Int) < (j : Int) + 1 := by omega
          have b1 : (b : Int) < (j : Int) + 1 := by omega
          have hwz : w.heap.size ≤ wr.heap.size := HB.out.size
          clear hu hpf hpb tk htk hfj hv hst hp
          have HK2 : Aside0 (j + 1 + (l.length - j) = l.length + 1 ∧ 0 < l.length - j ∧ l.length - j < gk) := ⟨by have h_ := HK.out; clear hwu hpr; omega⟩
          have HW1 := Aside0.mk (wr1 j (by clear hwu hpr; omega))
          have HQ : Aside0 (ints (vs.take j) ++ [.int .i64 p] = ints (vs.take j ++ [p])) := ⟨by simp [ints]⟩
          by_cases c6 : p < pf <;> by_cases c7 : p ≤ pb
          all_goals
            have c7n : decide (p ≤ pb) = decide (p ≤ pb) := rfl
            first | rw [if_pos c6] at HST | rw [if_neg c6] at HST
            first | rw [if_pos c7] at HST | rw [if_neg c7] at HST
            first | have c6b := decide_eq_true c6 | have c6b := decide_eq_false c6
            first | have c7b := decide_eq_true c7 | have c7b := decide_eq_false c7
            try have c6c : pf ≤ p := Int.not_lt.mp c6
            try have c7c : pb < p := Int.not_le.mp c7
            go_wp2_with (first
              | (go_at_call 13; (with_reducible refine (pick_calls _ hwu.1 hwu.2 (by decide)).mono ?_); rw [HP.out]; rintro e w' ⟨rfl, hw'⟩; have hw' := hw'.symm; subst hw')
              | ((with_reducible refine gate_builtin (b := .append) (xs := #[.tmp 39, .tmp 41]) rfl ?_); at_builtin; refine print_append_cells (w0 := wr) w.heap.size rfl (.tmp 39) (.tmp 41) 24 2 (.int .i64 0) 1 8 rfl Try.underlying24 info_i64 rfl (by decide) (by decide) (.slice av j cv) j (ints (vs.take j)) [.int .i64 p] rfl rfl rfl ?aH ?aO (Below.refl _ _) ?aS ?aL ?_; (case aH => intro z hz; simp at hz; subst hz; rfl); (case aO => exact HO.out); (case aS => exact hwz); (case aL => omega); intro v1 w5 ho hb5 hg hat; rw [HQ.out] at ho; obtain ⟨g5, c5, e5⟩ := ownsRow_succ ho; subst e5; have hcf := own_cell ho (j := f) (by rw [HTL.out]; have h_ := HFJ.out; omega); have hcb := own_cell ho (j := b) (by rw [HTL.out]; have h_ := HFJ.out; omega); rw [HT.out.1] at hcf; rw [HT.out.2] at hcb; have HO5 := Aside0.mk ho; have HB5 : Aside0 (Below w.heap.size w w5) := ⟨HB.out.grown hg HB.out.size (fun r e => (own_typed HO.out r e).1)⟩; clear ho hb5 hg hat))
            go_roundg (l.length - j)
            case measure => exact HK2.out.2.2
            case rel =>
              have h_ := HW1.out
              refine ⟨j + 1, _, _, rfl, rfl, by first | rw [h_] | rfl, ⟨⟨HK2.out.1, HK2.out.2.1⟩⟩, HST, ⟨by rw [HTK.out]; exact HO5.out⟩, HB5⟩
        · have e1 : j = l.length := by have h_ := HK.out; omega
          have hge : (l.length : Int) ≤ (j : Int) := by omega
          have hge2 : decide ((j : Int) < (l.length : Int)) = false := decide_eq_false (by omega)
          have HJ := Aside0.mk e1
          have HTA : Aside0 (vs.take j = vs) := ⟨by rw [e1, ← HVL.out, List.take_length]⟩
          have hv0 : ∀ v ∈ vs, -4611686018427387904 ≤ v ∧ v ≤ 4611686018427387904 := by
            intro v hv
            rw [← HVS.out] at hv
            obtain ⟨x, _, rfl⟩ := List.mem_map.1 hv
            have := pk_range (c := x) (n := 4) (by omega)
            omega
          have HV0 := Aside0.mk hv0
          have HRV : Aside0 (Rds wr av vs) := ⟨by
            have h_ := HO.out
            rw [HTA.out] at h_
            obtain ⟨A2, c2, e2, _, _, h2, _⟩ := Rds.own h_
            injection e2 with e3 _ _
            rw [e3]
            exact h2⟩
          clear e1 hv0
          obtain rfl : j = vs.length := by have h_ := HJ.out; have h2_ := HVL.out; omega
          go_wp2_with (go_at_call 14; refine (Fm.new (w0 := w) (vs := vs) HB.out HRV.out (by have h_ := HVL.out; omega) (by have h_ := HVL.out; omega) HV0.out).mono ?_; rintro e w1 ⟨rfl, hB, gn, cap, hF⟩; rw [rows_one (by have h_ := HVL.out; omega)] at hF; have HF1 := Aside0.mk hF; clear hF hB)
          go_loopg [11] (l.length + 1) (fun kq v11 wq => ∃ (i : Nat), v11 = .int .i64 (i : Int) ∧ Aside0 (i + kq = l.length + 2 ∧ 1 < kq ∧ 1 ≤ i) ∧ Aside0 (Fm w wq wr.heap.size gn vs.length cap (rowsAt vs i)))
          case atStart => exact ⟨1, rfl, ⟨by omega⟩, HF1⟩
          case round =>
            clear HF1
            obtain ⟨i, rfl, HK3, HF2⟩ := hrel
            by_cases c8 : i < l.length
            · have hlt : (i : Int) < (l.length : Int) := by omega
              have hi1 : ((i : Int) - 1) = ((i - 1 : Nat) : Int) := by have h_ := HK3.out; omega
              have hw1 : wrap64 ((i : Int) - 1) = ((i - 1 : Nat) : Int) := by have h_ := HK3.out; unfold wrap64; omega
              have HK4 : Aside0 (i + 1 + (l.length + 1 - i) = l.length + 2 ∧ 1 < l.length + 1 - i ∧ l.length + 1 - i < gk) := ⟨by have h_ := HK3.out; omega⟩
              have HW1 := Aside0.mk (wr1 i (by omega))
              go_wp2_with (go_at_call 15; (with_reducible refine (HF2.out.join_next (j := i - 1) (by have h_ := HK3.out; omega) (by have h_ := HVL.out; omega)).mono ?_); rintro e w3 ⟨rfl, hF, hK⟩; have HF3 := Aside0.mk hF; clear hF hK)
              go_roundg (l.length + 1 - i)
              case measure => exact HK4.out.2.2
              case rel => exact ⟨i + 1, by first | rw [HW1.out] | rfl, ⟨⟨HK4.out.1, HK4.out.2.1, by omega⟩⟩, HF3⟩
            · have hge : (l.length : Int) ≤ (i : Int) := by omega
              have hge2 : decide ((i : Int) < (l.length : Int)) = false := decide_eq_false (by omega)
              obtain rfl : i = vs.length := by have h_ := HK3.out; have h2_ := HVL.out; omega
              have hn0 : 0 < vs.length := by have h2_ := HVL.out; omega
              have hk0 : (0 : Int) ∈ (rowTo vs vs.length).map Prod.fst := rowTo_mem (j := 0) hn0
              have hk1 : ((l.length - 1 : Nat) : Int) ∈ (rowTo vs vs.length).map Prod.fst := rowTo_mem (by have h2_ := HVL.out; omega)
              have hk2 : (0 : Int) ∈ (rowTo vs vs.length).reverse.map Prod.fst := by rw [List.map_reverse]; exact List.mem_reverse.2 hk0
              have hw1 : wrap64 ((l.length : Int) - 1) = ((l.length - 1 : Nat) : Int) := by unfold wrap64; omega
              have hi1 : (l.length : Int) - 1 = ((l.length - 1 : Nat) : Int) := by omega
              have hout : ¬ (0 ≤ (l.length : Int) ∧ (l.length : Int) < (vs.length : Int)) := by have h2_ := HVL.out; omega
              go_wp2_with (first
                | (go_at_call 16; (with_reducible refine (HF2.out.least (W := rowTo vs vs.length) List.mem_cons_self hk1).mono ?_); rintro e w3 ⟨⟨y, rfl, hy⟩, hF, hK⟩; obtain rfl := HM.out.is_first hy; have HF3 := Aside0.mk hF; clear hF hK HF2 hy)
                | (go_at_call 17; (with_reducible refine (HF3.out.turn (W := rowTo vs vs.length) (Vs := singles vs vs.length) (List.Perm.refl _) hk0).mono ?_); rintro e w4 ⟨⟨v4, rfl⟩, hF, hK⟩; have HF4 := Aside0.mk hF; clear hF hK HF3)
                | (go_at_call 16; (with_reducible refine (HF4.out.least (W := (rowTo vs vs.length).reverse) List.mem_cons_self hk2).mono ?_); rintro e w5 ⟨⟨y5, rfl, hy⟩, hF, hK⟩; obtain rfl := HM.out.is_last hy; have HF5 := Aside0.mk hF; clear hF hK HF4 hy)
                | (go_at_call 16; (with_reducible refine (HF5.out.least_out hout).mono ?_); rintro e w6 ⟨rfl, hw6⟩; have hw6 := hw6.symm; subst hw6))
              go_ret
              exact ⟨rfl, HF5.out.old⟩
end Go.Proofs.YtcnmbgijehnchaaW.Splay
