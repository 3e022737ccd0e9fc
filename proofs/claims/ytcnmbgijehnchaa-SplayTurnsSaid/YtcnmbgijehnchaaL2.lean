/- SplayTurns: the law's walk (by hand). -/
import Derived.Test.YtcnmbgijehnchaaS23
set_option linter.unusedVariables false
set_option linter.unusedSimpArgs false
namespace Go.Proofs.YtcnmbgijehnchaaW.Splay
open Go.RowKit Go.Shelf Go.Proofs.YtcnmbgijehnchaaW.PrintWords Go.Proofs.YtcnmbgijehnchaaW.PrintLast Go.Proofs.YtcnmbgijehnchaaW.PrintMore Go.Proofs.YtcnmbgijehnchaaW.Mine
attribute [local go_sem] max2_int min2_int max_two min_two max_three min_three max_four min_four Oper.semAt_some
theorem info_z64 : (Try.prog.info? 2).map (fun i => (i.zero, i.size, i.bytes)) = some (some (.int .i64 0), 1, 8) := by kernel_rfl
theorem make_run (n : Nat) (hn : n ≤ 1000000) (W : World) : (Instr.makeSlice 24 (.int .i64 (n : Int)) (.int .i64 (n : Int))).run Try.prog W = .ok (.slice (some ⟨W.heap.size, 0, none⟩) n n) (W.alloc (.cells (madeCells #[.int .i64 0] n) 2)) := by
  obtain ⟨i0, hi, hz0, hz1, hz2⟩ := info_parts info_z64
  have hr := run_make (P := Try.prog) W 24 2 i0 (.int .i64 0) Try.underlying24 hi hz0 .i64 .i64 (n : Int) (n : Int) (by omega) (by omega) (by rw [hz2]; omega) (by omega)
  simp only [Int.toNat_natCast] at hr
  rw [hz1, Nat.mul_one] at hr
  exact hr
theorem zero_bd (n : Nat) : ∀ v ∈ List.replicate n (0 : Int), -4611686018427387904 ≤ v ∧ v ≤ 4611686018427387904 := fun v hv => by
  rw [(List.mem_replicate.1 hv).2]
  decide
set_option maxHeartbeats 16000000 in
set_option maxRecDepth 100000 in
theorem turns_law {w : World} {c1 c2 : Int} (hc1 : (Lit.int .i64 c1).wf = true) (hc2 : (Lit.int .i64 c2).wf = true) :
    Calls Try.prog 4 #[.int .i64 c1, .int .i64 c2] w fun e w' => e = .returned (.bool true) ∧ Below w.heap.size w w' := by
  obtain ⟨a1, a2⟩ := wf_bounds hc1
  obtain ⟨b1, b2⟩ := wf_bounds hc2
  have p1 := pk_range (c := c1) (n := 60) (by decide)
  obtain ⟨n, hn, hn2, hn3⟩ : ∃ n : Nat, pk c1 60 = ((n : Int) - 2) ∧ 2 ≤ n ∧ n < 62 := ⟨(pk c1 60 + 2).toNat, by omega, by omega, by omega⟩
  have p2 := pk_range (c := c2) (n := (n : Int) - 1) (by omega)
  obtain ⟨k, hk, hk2, hk3⟩ : ∃ k : Nat, pk c2 ((n : Int) - 1) = ((k : Int) - 1) ∧ 1 ≤ k ∧ k < n := ⟨(pk c2 ((n : Int) - 1) + 1).toNat, by omega, by omega, by omega⟩
  have hw2 : wrap64 (2 + ((n : Int) - 2)) = (n : Int) := by unfold wrap64; omega
  have hw3 : wrap64 ((n : Int) - 1) = ((n : Int) - 1) := by unfold wrap64; omega
  have hw4 : wrap64 (1 + ((k : Int) - 1)) = (k : Int) := by unfold wrap64; omega
  have hw5 : wrap64 (n : Int) = (n : Int) := by unfold wrap64; omega
  have hw6 : wrap64 (k : Int) = (k : Int) := by unfold wrap64; omega
  have hi2 : (2 + ((n : Int) - 2)) = (n : Int) := by omega
  have hi4 : (1 + ((k : Int) - 1)) = (k : Int) := by omega
  have HN := Aside0.mk (And.intro hn2 hn3)
  have HKN := Aside0.mk (And.intro hk2 hk3)
  have H1 := Aside0.mk (And.intro a1 a2)
  have H2 := Aside0.mk (And.intro b1 b2)
  have HP1 := Aside0.mk hn
  have HP2 := Aside0.mk hk
  obtain ⟨vs, hvs⟩ : ∃ vs, List.replicate n (0 : Int) = vs := ⟨_, rfl⟩
  have HVL : Aside0 (vs.length = n) := ⟨by rw [← hvs]; simp⟩
  have HVB : Aside0 (∀ v ∈ vs, -4611686018427387904 ≤ v ∧ v ≤ 4611686018427387904) := ⟨by rw [← hvs]; exact zero_bd n⟩
  have HVS := Aside0.mk hvs
  have hmk := make_run n (by omega)
  clear hn hn2 hn3 hk hk2 hk3 a1 a2 b1 b2 p1 p2 hvs hc1 hc2
  go_enter Try.func4, Try.ntmps4
  go_wp2_with (first
    | (go_at_call 12; (with_reducible refine (shown_calls _).mono ?_); rintro e w1 ⟨rfl, hB⟩; have HB1 := Aside0.mk hB; clear hB)
    | (go_at_call 13; (with_reducible refine (pick_calls _ H1.out.1 H1.out.2 (by decide)).mono ?_); rw [HP1.out]; rintro e w' ⟨rfl, hw'⟩; have hw' := hw'.symm; subst hw')
    | (go_at_call 14; (refine (Fm.newn (w0 := w) (vs := vs) HVL.out (HF1.out.old.trans ((below_alloc (Below.refl _ _) _).mono HF1.out.old.size)) (by rw [← HVS.out]; exact Rds.zeros) (by have h_ := HN.out; omega) (by have h_ := HN.out; omega) HVB.out).mono ?_); rintro e w3 ⟨rfl, hB, gm, cap2, hgm, hF⟩; rw [rows_one (by have h_ := HN.out; have h2_ := HVL.out; omega)] at hF; have hFS := (HF1.out.below (below_alloc (Below.refl _ _) _)).below hB; rw [World.size_alloc] at hgm hF; have HT1 := Aside0.mk hF; have HS1 := Aside0.mk hFS; have HD : Aside0 (gs ≠ w2.heap.size + 1 ∧ gs ≠ gm ∧ gn ≠ w2.heap.size + 1 ∧ gn ≠ gm) := ⟨by have h_ := HF1.out.ke; omega⟩; clear hF hB hgm hFS HF1)
    | (go_at_call 14; (refine (Fm.newn (w0 := w) (vs := vs) HVL.out (HB1.out.trans ((below_alloc (Below.refl _ _) _).mono HB1.out.size)) (by rw [← HVS.out]; exact Rds.zeros) (by have h_ := HN.out; omega) (by have h_ := HN.out; omega) HVB.out).mono ?_); rintro e w2 ⟨rfl, hB, gn, cap, hgn, hF⟩; rw [rows_one (by have h_ := HN.out; have h2_ := HVL.out; omega)] at hF; rw [World.size_alloc] at hgn hF; obtain ⟨gs, hgs⟩ : ∃ gs, w1.heap.size + 1 = gs := ⟨_, rfl⟩; rw [hgs] at hF hgn; rw [World.size_alloc, hgs]; have HF1 := Aside0.mk hF; clear hF hB hgn hgs))
  obtain ⟨gt, hgt⟩ : ∃ gt, w2.heap.size + 1 = gt := ⟨_, rfl⟩
  rw [hgt] at HT1 HD ⊢
  clear hgt hmk
  go_loopg [11] (n + 1) (fun kq v11 wq => ∃ (i : Nat), v11 = .int .i64 (i : Int) ∧ Aside0 (i + kq = n + 2 ∧ 1 < kq ∧ 1 ≤ i) ∧ Aside0 (Fm w wq gs gn n cap (rowsAt vs i)) ∧ Aside0 (Fm w wq gt gm n cap2 (rowsAt vs i)))
  case atStart => exact ⟨1, rfl, ⟨by have h_ := HN.out; omega⟩, HS1, HT1⟩
  case round =>
    clear HS1 HT1
    obtain ⟨i, rfl, HK3, HS2, HT2⟩ := hrel
    by_cases c8 : i < n
    · have hlt : (i : Int) < (n : Int) := by omega
      have HK4 : Aside0 (i + 1 + (n + 1 - i) = n + 2 ∧ 1 < n + 1 - i ∧ n + 1 - i < gk) := ⟨by have h_ := HK3.out; omega⟩
      have HW1 := Aside0.mk (wr1 i (by have h_ := HN.out; omega))
      go_wp2_with (first
        | (go_at_call 15; (with_reducible refine (HS2.out.join_next0 (by have h_ := HK3.out; omega) (by have h_ := HVL.out; omega)).mono ?_); rintro e w4 ⟨rfl, hF, hK⟩; have HS3 := Aside0.mk hF; have HT3 := Aside0.mk (HT2.out.other hK hF.old HD.out.1.symm HD.out.2.2.1.symm HD.out.2.1.symm HD.out.2.2.2.symm); clear hF hK HS2 HT2)
        | (go_at_call 15; (with_reducible refine (HT3.out.join_next0 (by have h_ := HK3.out; omega) (by have h_ := HVL.out; omega)).mono ?_); rintro e w5 ⟨rfl, hF, hK⟩; have HT4 := Aside0.mk hF; have HS4 := Aside0.mk (HS3.out.other hK hF.old HD.out.1 HD.out.2.1 HD.out.2.2.1 HD.out.2.2.2); clear hF hK HS3 HT3))
      go_roundg (n + 1 - i)
      case measure => exact HK4.out.2.2
      case rel => exact ⟨i + 1, by first | rw [HW1.out] | rfl, ⟨⟨HK4.out.1, HK4.out.2.1, by omega⟩⟩, HS4, HT4⟩
    · have hge : (n : Int) ≤ (i : Int) := by omega
      have hge2 : decide ((i : Int) < (n : Int)) = false := decide_eq_false (by omega)
      obtain rfl : i = n := by have h_ := HK3.out; omega
      have e_ : rowsAt vs i = [rowTo vs i] := by unfold rowsAt; rw [singles_all vs HVL.out]
      rw [e_] at HS2 HT2
      clear e_
      have hk0 : (0 : Int) ∈ (rowTo vs i).map Prod.fst := rowTo_mem (j := 0) (by have h_ := HN.out; omega)
      have hkr : (0 : Int) ∈ ((rowTo vs i).reverse).map Prod.fst := by rw [List.map_reverse]; exact List.mem_reverse.2 hk0
      have hkk : (k : Int) ∈ (rowTo vs i).map Prod.fst := rowTo_mem HKN.out.2
      have hk1 : (0 : Int) ∈ (rowTo vs k).map Prod.fst := rowTo_mem (j := 0) (by have h_ := HKN.out; omega)
      have hk2 : (0 : Int) ∈ ((rowTo vs k).reverse).map Prod.fst := by rw [List.map_reverse]; exact List.mem_reverse.2 hk1
      have hk3 : (k : Int) ∈ (rowFrom vs k i).map Prod.fst := rowFrom_mem HKN.out.2
      have hk4 : (k : Int) ∈ ((rowFrom vs k i).reverse).map Prod.fst := by rw [List.map_reverse]; exact List.mem_reverse.2 hk3
      have HEQ : Aside0 ((rowFrom vs k i).reverse ++ (rowTo vs k).reverse = (rowTo vs i).reverse) := ⟨by rw [rowTo_from vs (Nat.le_of_lt HKN.out.2), List.reverse_append]⟩
      obtain ⟨ks, hks⟩ : ∃ ks, (rowTo vs i).reverse.map Prod.fst = ks := ⟨_, rfl⟩
      have HKL : Aside0 (ks.length = i) := ⟨by rw [← hks]; simp [rowTo_length]⟩
      have HKS := Aside0.mk hks
      clear hks
      have hpn : (0 : Int) < (i : Int) - 1 := by have h_ := HN.out; omega
      go_wp2_with (first
        | (go_at_call 13; (with_reducible refine (pick_calls _ H2.out.1 H2.out.2 hpn).mono ?_); rw [HP2.out]; rintro e w' ⟨rfl, hw'⟩; have hw' := hw'.symm; subst hw')
        | (go_at_call 17; (with_reducible refine (HS2.out.turn (W := rowTo vs i) (Vs := []) (List.Perm.refl _) hkk).mono ?_); rintro e w4 ⟨⟨v4, rfl⟩, hF, hK⟩; have HS3 := Aside0.mk hF; have HT3 := Aside0.mk (HT2.out.other hK hF.old HD.out.1.symm HD.out.2.2.1.symm HD.out.2.1.symm HD.out.2.2.2.symm); clear hF hK HS2 HT2)
        | (go_at_call 18; (with_reducible refine (HT3.out.cut_at (k := k) (by have h_ := HKN.out; omega) HKN.out.2).mono ?_); rintro e w5 ⟨rfl, hF, hK⟩; have HT4 := Aside0.mk hF; have HS4 := Aside0.mk (HS3.out.other hK hF.old HD.out.1 HD.out.2.1 HD.out.2.2.1 HD.out.2.2.2); clear hF hK HS3 HT3)
        | (go_at_call 17; (with_reducible refine (HT4.out.turn (W := rowTo vs k) (Vs := [rowFrom vs k i]) (List.Perm.refl _) hk1).mono ?_); rintro e w6 ⟨⟨v6, rfl⟩, hF, hK⟩; have HT5 := Aside0.mk hF; have HS5 := Aside0.mk (HS4.out.other hK hF.old HD.out.1 HD.out.2.1 HD.out.2.2.1 HD.out.2.2.2); clear hF hK HS4 HT4)
        | (go_at_call 17; (with_reducible refine (HT5.out.turn (W := rowFrom vs k i) (Vs := [(rowTo vs k).reverse]) (List.Perm.swap _ _ _) hk3).mono ?_); rintro e w7 ⟨⟨v7, rfl⟩, hF, hK⟩; have HT6 := Aside0.mk hF; have HS6 := Aside0.mk (HS5.out.other hK hF.old HD.out.1 HD.out.2.1 HD.out.2.2.1 HD.out.2.2.2); clear hF hK HS5 HT5)
        | (go_at_call 15; (with_reducible refine (HT6.out.join (Wa := (rowFrom vs k i).reverse) (Wb := (rowTo vs k).reverse) (Vs := []) (List.Perm.refl _) hk4 hk2).mono ?_); rw [HEQ.out]; rintro e w8 ⟨rfl, hF, hK⟩; have HT7 := Aside0.mk hF; have HS7 := Aside0.mk (HS6.out.other hK hF.old HD.out.1 HD.out.2.1 HD.out.2.2.1 HD.out.2.2.2); clear hF hK HS6 HT6)
        | (go_at_call 20; (with_reducible refine (HS7.out.row (W := (rowTo vs i).reverse) List.mem_cons_self hkr).mono ?_); rintro e w9 ⟨u9, rfl, ho, hF, hb⟩; have HS8 := Aside0.mk hF; have HT8 := Aside0.mk (HT7.out.below hb); rw [HKS.out] at ho; obtain ⟨A9, c9, rfl, hc9, hm9, hr9, hof9⟩ := Rds.own ho; have HR9 := Aside0.mk hr9; clear hF hb ho hr9 hof9 hc9 hm9 HS7 HT7)
        | (go_at_call 20; (with_reducible refine (HT8.out.row (W := (rowTo vs i).reverse) List.mem_cons_self hkr).mono ?_); rintro e wa ⟨ua, rfl, ho, hF, hb⟩; have HT9 := Aside0.mk hF; have HS9 := Aside0.mk (HS8.out.below hb); have HR9' := Aside0.mk (HR9.out.below hb); rw [HKS.out] at ho; obtain ⟨Aa, ca, rfl, hca, hma, hra, hofa⟩ := Rds.own ho; have HRa := Aside0.mk hra; clear hF hb ho hra hofa hca hma HS8 HT8 HR9)
        | (go_at_call 19; (refine (same_calls HR9'.out HRa.out (by rw [HKL.out]; have h_ := HN.out; omega) (by rw [HKL.out]; have h_ := HN.out; omega)).mono ?_); rintro e wb ⟨rfl, hd⟩; have HSb := Aside0.mk (HS9.out.below hd.below); clear hd HS9 HT9))
      clear hk0 hkr hkk hk1 hk2 hk3 hk4
      go_loopg [13] (i + 1) (fun kq v13 wq => ∃ (j : Nat), v13 = .int .i64 (j : Int) ∧ Aside0 (j + kq = i + 1 ∧ 0 < kq) ∧ Aside0 (Fm w wq gs gn i cap [(rowTo vs i).reverse]))
      case atStart => exact ⟨0, rfl, ⟨by omega⟩, HSb⟩
      case round =>
        clear HSb
        obtain ⟨j, rfl, HK5, HF⟩ := hrel
        by_cases c9 : j < i
        · have hlt : (j : Int) < (i : Int) := by omega
          have r1 := wr2 i j c9 (by have h_ := HN.out; omega)
          have HK6 : Aside0 (j + 1 + (i - j) = i + 1 ∧ 0 < i - j ∧ i - j < gk) := ⟨by have h_ := HK5.out; omega⟩
          have HW1 := Aside0.mk (wr1 j (by have h_ := HN.out; omega))
          go_wp2_with (first
            | (go_at_call 21; (with_reducible refine (HF.out.place_rev c9).mono ?_); rintro e w4 ⟨rfl, hF, hK⟩; have HF2 := Aside0.mk hF; clear hF hK HF)
            | (go_at_call 22; (with_reducible refine (HF2.out.at_rev c9).mono ?_); rintro e w5 ⟨rfl, hF, hK⟩; have HF3 := Aside0.mk hF; clear hF hK HF2))
          go_roundg (i - j)
          case measure => exact HK6.out.2.2
          case rel => exact ⟨j + 1, by first | rw [HW1.out] | rfl, ⟨⟨HK6.out.1, HK6.out.2.1⟩⟩, HF3⟩
        · have hge : (i : Int) ≤ (j : Int) := by omega
          have hge2 : decide ((j : Int) < (i : Int)) = false := decide_eq_false (by omega)
          go_wp2_with (first
            | (go_at_call 23; (with_reducible refine (HF.out.first_rev HKN.out.2).mono ?_); rintro e w4 ⟨rfl, hF, hK⟩; have HF2 := Aside0.mk hF; clear hF hK HF)
            | (go_at_call 24; (with_reducible refine (HF2.out.last_rev HKN.out.2).mono ?_); rintro e w5 ⟨rfl, hF, hK⟩; have HF3 := Aside0.mk hF; clear hF hK HF2)
            | (go_at_call 22; (with_reducible refine (HF3.out.at_far HKN.out.2 (pl := (i : Int)) (.inr (Int.le_refl _))).mono ?_); rintro e w6 ⟨rfl, hF, hK⟩; have HF4 := Aside0.mk hF; clear hF hK HF3)
            | (go_at_call 22; (with_reducible refine (HF4.out.at_far HKN.out.2 (pl := -1) (.inl (by decide))).mono ?_); rintro e w7 ⟨rfl, hF, hK⟩; have HF5 := Aside0.mk hF; clear hF hK HF4))
          go_ret
          exact ⟨rfl, HF5.out.old⟩
end Go.Proofs.YtcnmbgijehnchaaW.Splay
