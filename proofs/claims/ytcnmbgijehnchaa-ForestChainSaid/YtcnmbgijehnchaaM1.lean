/- ForestChain (walk by hand). -/
import Derived.Test.YtcnmbgijehnchaaM0
set_option linter.unusedVariables false
set_option linter.unusedSimpArgs false
namespace Go.Proofs.YtcnmbgijehnchaaW.Splay
open Go.RowKit Go.Shelf Go.Proofs.YtcnmbgijehnchaaW.PrintWords Go.Proofs.YtcnmbgijehnchaaW.PrintLast Go.Proofs.YtcnmbgijehnchaaW.PrintMore Go.Proofs.YtcnmbgijehnchaaW.Mine
attribute [local go_sem] max2_int min2_int max_two min_two max_three min_three max_four min_four Oper.semAt_some
set_option maxHeartbeats 16000000 in
set_option maxRecDepth 100000 in
theorem chain_law {w : World} {c1 c2 : Int} (hc1 : (Lit.int .i64 c1).wf = true) (hc2 : (Lit.int .i64 c2).wf = true) :
    Calls Try.prog 8 #[.int .i64 c1, .int .i64 c2] w fun e w' => e = .returned (.bool true) ∧ Below w.heap.size w w' := by
  obtain ⟨a1, a2⟩ := wf_bounds hc1
  obtain ⟨b1, b2⟩ := wf_bounds hc2
  have p1 := pk_range (c := c1) (n := 60) (by decide)
  obtain ⟨n, hn, hn2, hn3⟩ : ∃ n : Nat, pk c1 60 = ((n : Int) - 2) ∧ 2 ≤ n ∧ n < 62 := ⟨(pk c1 60 + 2).toNat, by omega, by omega, by omega⟩
  have p2 := pk_range (c := c2) (n := (n : Int)) (by omega)
  obtain ⟨k, hk, hk3⟩ : ∃ k : Nat, pk c2 (n : Int) = (k : Int) ∧ k < n := ⟨(pk c2 (n : Int)).toNat, by omega, by omega⟩
  have hw2 : wrap64 (2 + ((n : Int) - 2)) = (n : Int) := by unfold wrap64; omega
  have hw5 : wrap64 (n : Int) = (n : Int) := by unfold wrap64; omega
  have hi2 : (2 + ((n : Int) - 2)) = (n : Int) := by omega
  have HN := Aside0.mk (And.intro hn2 hn3)
  have HKN := Aside0.mk hk3
  have H1 := Aside0.mk (And.intro a1 a2)
  have H2 := Aside0.mk (And.intro b1 b2)
  have HP1 := Aside0.mk hn
  have HP2 := Aside0.mk hk
  have HVL : Aside0 ((List.replicate n (0 : Int)).length = n) := ⟨by simp⟩
  have HVB := Aside0.mk (zeros_bd n)
  have HNP : Aside0 (0 < n ∧ n ≤ 3000 ∧ (0 : Int) < (n : Int)) := ⟨by omega⟩
  have hmk := make_i64 n (by omega)
  clear hn hn2 hn3 hk hk3 a1 a2 b1 b2 p1 p2 hc1 hc2
  go_enter Try.func8, Try.ntmps8
  go_wp2_with (first
    | (go_at_call 27; (with_reducible refine (shown10_calls _).mono ?_); rintro e w1 ⟨rfl, hB⟩; have HB1 := Aside0.mk hB; clear hB)
    | (go_at_call 29; (with_reducible refine (pick10_calls _ H1.out.1 H1.out.2 (by decide)).mono ?_); rw [HP1.out]; rintro e w' ⟨rfl, hw'⟩; have hw' := hw'.symm; subst hw')
    | (go_at_call 28; (refine (tnew_calls (w0 := w) HVL.out (HB1.out.trans ((below_alloc (Below.refl _ _) _).mono HB1.out.size)) Rds.zeros HNP.out.2.1 HNP.out.1 HVB.out).mono ?_); rintro e w2 ⟨D, rfl, hN, _, _, _, _, hB, hT⟩; rw [← chain_bare] at hT; have HD : Aside0 ((D.N : Int) = (n : Int)) := ⟨by rw [hN]⟩; have HT := Aside0.mk hT; clear hN hB hT))
  clear hmk
  go_loopg [9] n (fun kq v9 wq => ∃ (i : Nat), v9 = .int .i64 (i : Int) ∧ Aside0 (i + kq = n ∧ 0 < kq) ∧ Aside0 (Tm D w wq (chainUp (i : Int)) (worth (List.replicate n 0))))
  case atStart => exact ⟨0, rfl, ⟨by have h_ := HN.out; omega⟩, HT⟩
  case round =>
    clear HT
    obtain ⟨i, rfl, HK, HT⟩ := hrel
    have hwi : wrap64 ((i : Int) + 1) = (i : Int) + 1 := by have h_ := HK.out; have h2_ := HN.out; unfold wrap64; omega
    by_cases c1 : i + 1 < n
    · have hlt : ((i : Int) + 1 < (n : Int)) = True := eq_true (by omega)
      have HC := Aside0.mk (chain_next (N := (D.N : Int)) (i := (i : Int)) (by omega) (by rw [HD.out]; omega))
      have HI0 : Aside0 ((0 : Int) ≤ (i : Int)) := ⟨by omega⟩
      have HI1 : Aside0 ((i : Int) + 1 < (D.N : Int)) := ⟨by rw [HD.out]; omega⟩
      go_wp2_with (first
        | (go_at_call 30; (with_reducible refine (link_ok HT.out HC.out.1 HI0.out HC.out.2.1 HC.out.2.2.1 HC.out.2.2.2.1).mono ?_); rintro e w3 ⟨rfl, hT, hK⟩; rw [chain_put HI0.out] at hT; have HT3 := Aside0.mk hT; clear hT hK)
        | (go_at_call 30; (with_reducible refine (link_same HT3.out HC.out.2.2.2.2.1 HC.out.2.2.2.2.2.1 HI1.out HC.out.2.2.2.2.2.2).mono ?_); rintro e w4 ⟨rfl, hT, hK⟩; have HT4 := Aside0.mk hT; clear hT hK))
      go_roundg (n - (i + 1))
      case measure => have h_ := HK.out; omega
      case rel =>
        have h_ := HK.out
        have h3_ := HN.out
        exact ⟨i + 1, congrArg (Value.int .i64) (hwi.trans (by omega)), ⟨by omega⟩, HT4⟩
    · as_aux_lemma =>
        have hlt : ((i : Int) + 1 < (n : Int)) = False := eq_false (by omega)
        have hin : i + 1 = n := by have h_ := HK.out; omega
        have HIN := Aside0.mk hin
        have HW : Aside0 (Way (D.N : Int) (chainUp (i : Int)) 0 (upto 0 n)) := ⟨chain_all0 HD.out hin⟩
        clear hin
        go_wp2_with (first
          | (go_at_call 29; (with_reducible refine (pick10_calls _ H2.out.1 H2.out.2 HNP.out.2.2).mono ?_); rw [HP2.out]; rintro e w' ⟨rfl, hw'⟩; have hw' := hw'.symm; subst hw')
          | (go_at_call 34; (with_reducible refine (path_calls HT.out HW.out).mono ?_); rintro e w4 ⟨g, c, rfl, hc, hm, hg, hrow, hT, hK⟩; rw [upto_len]; rw [upto_len] at hc; have HT4 := Aside0.mk hT; have HR := Aside0.mk hrow; have HC := Aside0.mk (And.intro hc hm); clear hT hK hrow hg hc hm))
        go_loopg [12] (n + 1) (fun kq v12 wr => ∃ (p : Nat), v12 = .int .i64 (p : Int) ∧ Aside0 (p + kq = n + 1 ∧ 0 < kq) ∧ Aside0 (Tm D w wr (chainUp (i : Int)) (worth (List.replicate n 0))) ∧ Aside0 (RowC wr g (upto 0 n).reverse))
        case atStart => exact ⟨0, rfl, ⟨by have h_ := HN.out; omega⟩, HT4, HR⟩
        case round =>
          clear HT4 HR hlt hwi
          obtain ⟨p, rfl, HK2, HT5, HR⟩ := hrel
          have hwn : wrap64 ((n : Int) - 1) = (n : Int) - 1 := by have h2_ := HN.out; exact w64s (by omega) (by omega)
          have hp0 : (0 : Int) ≤ (p : Int) := Int.natCast_nonneg p
          have HCAP : (n : Int) ≤ (c : Int) := by have h_ := HC.out.1; exact Int.ofNat_le.2 h_
          by_cases c2 : p < n
          · as_aux_lemma =>
              have hlt2 : ((p : Int) < (n : Int)) = True := eq_true (Int.ofNat_lt.2 c2)
              have hlt3 : (p : Int) < (n : Int) := Int.ofNat_lt.2 c2
              have hwp : wrap64 ((n : Int) - 1 - (p : Int)) = (n : Int) - 1 - (p : Int) := by have h2_ := HN.out; clear hwn hw2 hw5; exact w64s (by omega) (by omega)
              have hwp1 : wrap64 ((p : Int) + 1) = (p : Int) + 1 := by have h2_ := HN.out; clear hwn hw2 hw5 hwp; exact w64s (by omega) (by omega)
              have hcell : wr.cell? ⟨g, p, none⟩ = some (.int .i64 ((n : Int) - 1 - (p : Int))) := HR.out.get (upto_rev c2)
              go_wp2
              go_roundg (n - p)
              case measure => have h_ := HK2.out; clear hwn hw2 hw5 hwp hwp1; omega
              case rel =>
                have h_ := HK2.out
                exact ⟨p + 1, congrArg (Value.int .i64) hwp1, ⟨by clear hwn hw2 hw5 hwp hwp1; omega⟩, HT5, HR⟩
          · as_aux_lemma =>
              have hlt2 : ((p : Int) < (n : Int)) = False := eq_false (fun h => c2 (Int.ofNat_lt.1 h))
              have HW2 : Aside0 (Way (D.N : Int) (chainUp (i : Int)) (k : Int) (upto (k : Int) (n - k - 1 + 1))) := ⟨chain_all HD.out HIN.out HKN.out⟩
              obtain ⟨U, hU⟩ : ∃ U, turnUp (chainUp (i : Int)) (upto (k : Int) (n - k - 1 + 1)) = U := ⟨_, rfl⟩
              have HL := Aside0.mk (fun (y : Nat) (hy : y < k) => chain3_low HD.out HIN.out HKN.out hy)
              have HM := Aside0.mk (chain3_mid HD.out HIN.out HKN.out)
              have HH := Aside0.mk (fun (y : Nat) (hy : k < y) (hy2 : y < n) => chain3_high HD.out HIN.out hy hy2)
              rw [hU] at HL HM HH
              have HU := Aside0.mk hU
              clear hU
              go_wp2_with (go_at_call 35; (with_reducible refine (evert_calls HT5.out HW2.out).mono ?_); rw [HU.out]; rintro e w6 ⟨rfl, hT, hK⟩; have HT6 := Aside0.mk hT; clear hT hK)
              clear hlt2 hwn HCAP hp0 HR HT5 HK2 HT
              go_loopg [13] (n + 1) (fun kq v13 ws => ∃ (y : Nat), v13 = .int .i64 (y : Int) ∧ Aside0 (y + kq = n + 1 ∧ 0 < kq) ∧ Aside0 (Tm D w ws U (worth (List.replicate n 0))))
              case atStart => exact ⟨0, rfl, ⟨by have h_ := HN.out; omega⟩, HT6⟩
              case round =>
                clear HT6
                obtain ⟨y, rfl, HK3, HT7⟩ := hrel
                have hwy : wrap64 ((y : Int) + 1) = (y : Int) + 1 := by have h2_ := HN.out; have h3_ := HK3.out; clear hw2 hw5; exact w64s (by omega) (by omega)
                by_cases c3 : y < n
                · have hlt3 : ((y : Int) < (n : Int)) = True := eq_true (Int.ofNat_lt.2 c3)
                  rcases Nat.lt_trichotomy y k with c4 | c4 | c4
                  · as_aux_lemma =>
                      obtain ⟨a, q, hal, hq, hway, hup⟩ := HL.out y c4
                      have g1 : ((y : Int) < (k : Int)) = True := eq_true (Int.ofNat_lt.2 c4)
                      have g2 : ((k : Int) < (y : Int)) = False := eq_false (by clear hw2 hw5 hwy; omega)
                      have g3 : wrap64 ((y : Int) - (k : Int)) = (y : Int) - (k : Int) := by have h2_ := HN.out; have h3_ := HKN.out; clear hw2 hw5 hwy; exact w64s (by omega) (by omega)
                      have g4 : ((y : Int) - (k : Int) < 0) = True := eq_true (by clear hw2 hw5 hwy g3; omega)
                      have g5 : wrap64 (-((y : Int) - (k : Int))) = (q : Int) := by have h2_ := HN.out; have h3_ := HKN.out; clear hw2 hw5 hwy g3; rw [w64s (by omega) (by omega)]; omega
                      have g6 : wrap64 ((q : Int) + 1) = (q : Int) + 1 := by have h2_ := HN.out; have h3_ := HKN.out; clear hw2 hw5 hwy g3 g5; exact w64s (by omega) (by omega)
                      have HWY := Aside0.mk hway
                      have HUP := Aside0.mk hup
                      have HAL : Aside0 ((a ++ [(k : Int)]).length = q + 1) := ⟨by rw [List.length_append, hal]; rfl⟩
                      clear hway hup hal hq
                      go_wp2_with (first
                        | (go_at_call 33; (with_reducible refine (above_calls HT7.out HWY.out).mono ?_); rw [HUP.out]; rintro e wa ⟨rfl, hT, hK⟩; have HTa := Aside0.mk hT; clear hT hK)
                        | (go_at_call 34; (with_reducible refine (path_calls HTa.out HWY.out).mono ?_); rw [HAL.out]; rintro e wb ⟨g, c, rfl, hc, hm, hg, hrow, hT, hK⟩; have HTb := Aside0.mk hT; clear hT hK hrow hg hc hm)
                        | (go_at_call 32; (with_reducible refine (root_calls HTb.out HWY.out).mono ?_); rintro e wc ⟨rfl, hT, hK⟩; have HTc := Aside0.mk hT; clear hT hK))
                      go_roundg (n - y)
                      case measure => have h_ := HK3.out; clear hw2 hw5 hwy g3 g6 g5; omega
                      case rel =>
                        have h_ := HK3.out
                        exact ⟨y + 1, congrArg (Value.int .i64) hwy, ⟨by clear hw2 hw5 hwy g3 g6 g5; omega⟩, HTc⟩
                  · as_aux_lemma =>
                      subst c4
                      obtain ⟨a, hal, hway, hup⟩ := HM.out
                      have g1 : ((y : Int) < (y : Int)) = False := eq_false (Int.lt_irrefl _)
                      have g2 : wrap64 ((y : Int) - (y : Int)) = 0 := by clear hw2 hw5 hwy; rw [Int.sub_self]; exact w64s (by decide) (by decide)
                      have g3 : wrap64 0 = 0 := w64s (by decide) (by decide)
                      have HWY := Aside0.mk hway
                      have HUP := Aside0.mk hup
                      have HAL : Aside0 ((a ++ [(y : Int)]).length = 1) := ⟨by rw [List.length_append, hal]; rfl⟩
                      clear hway hup hal
                      go_wp2_with (first
                        | (go_at_call 33; (with_reducible refine (above_calls HT7.out HWY.out).mono ?_); rw [HUP.out]; rintro e wa ⟨rfl, hT, hK⟩; have HTa := Aside0.mk hT; clear hT hK)
                        | (go_at_call 34; (with_reducible refine (path_calls HTa.out HWY.out).mono ?_); rw [HAL.out]; rintro e wb ⟨g, c, rfl, hc, hm, hg, hrow, hT, hK⟩; have HTb := Aside0.mk hT; clear hT hK hrow hg hc hm)
                        | (go_at_call 32; (with_reducible refine (root_calls HTb.out HWY.out).mono ?_); rintro e wc ⟨rfl, hT, hK⟩; have HTc := Aside0.mk hT; clear hT hK))
                      go_roundg (n - y)
                      case measure => have h_ := HK3.out; clear hw2 hw5 hwy g3; omega
                      case rel =>
                        have h_ := HK3.out
                        exact ⟨y + 1, congrArg (Value.int .i64) hwy, ⟨by clear hw2 hw5 hwy g3; omega⟩, HTc⟩
                  · as_aux_lemma =>
                      obtain ⟨a, q, hal, hq, hway, hup⟩ := HH.out y c4 c3
                      have g1 : ((y : Int) < (k : Int)) = False := eq_false (by clear hw2 hw5 hwy; omega)
                      have g2 : ((k : Int) < (y : Int)) = True := eq_true (Int.ofNat_lt.2 c4)
                      have g3 : wrap64 ((y : Int) - (k : Int)) = (q : Int) := by have h2_ := HN.out; have h3_ := HKN.out; clear hw2 hw5 hwy; rw [w64s (by omega) (by omega)]; omega
                      have g4 : ((q : Int) < 0) = False := eq_false (by clear hw2 hw5 hwy g3; omega)
                      have g5 : wrap64 ((y : Int) - 1) = (y : Int) - 1 := by have h2_ := HN.out; clear hw2 hw5 hwy g3; exact w64s (by omega) (by omega)
                      have g6 : wrap64 ((q : Int) + 1) = (q : Int) + 1 := by have h2_ := HN.out; have h3_ := HKN.out; clear hw2 hw5 hwy g3 g5; exact w64s (by omega) (by omega)
                      have HWY := Aside0.mk hway
                      have HUP := Aside0.mk hup
                      have HAL : Aside0 ((a ++ [(k : Int)]).length = q + 1) := ⟨by rw [List.length_append, hal]; rfl⟩
                      clear hway hup hal hq
                      go_wp2_with (first
                        | (go_at_call 33; (with_reducible refine (above_calls HT7.out HWY.out).mono ?_); rw [HUP.out]; rintro e wa ⟨rfl, hT, hK⟩; have HTa := Aside0.mk hT; clear hT hK)
                        | (go_at_call 34; (with_reducible refine (path_calls HTa.out HWY.out).mono ?_); rw [HAL.out]; rintro e wb ⟨g, c, rfl, hc, hm, hg, hrow, hT, hK⟩; have HTb := Aside0.mk hT; clear hT hK hrow hg hc hm)
                        | (go_at_call 32; (with_reducible refine (root_calls HTb.out HWY.out).mono ?_); rintro e wc ⟨rfl, hT, hK⟩; have HTc := Aside0.mk hT; clear hT hK))
                      go_roundg (n - y)
                      case measure => have h_ := HK3.out; clear hw2 hw5 hwy g3 g6 g5; omega
                      case rel =>
                        have h_ := HK3.out
                        exact ⟨y + 1, congrArg (Value.int .i64) hwy, ⟨by clear hw2 hw5 hwy g3 g6 g5; omega⟩, HTc⟩
                · as_aux_lemma =>
                    have hlt3 : ((y : Int) < (n : Int)) = False := eq_false (fun h => c3 (Int.ofNat_lt.1 h))
                    go_wp2
                    go_ret
                    exact ⟨rfl, HT7.out.old⟩
end Go.Proofs.YtcnmbgijehnchaaW.Splay
