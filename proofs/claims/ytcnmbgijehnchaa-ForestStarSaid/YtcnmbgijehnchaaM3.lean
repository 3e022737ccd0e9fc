/- ForestStar (walk by hand). -/
import Derived.Test.YtcnmbgijehnchaaM2
set_option linter.unusedVariables false
set_option linter.unusedSimpArgs false
namespace Go.Proofs.YtcnmbgijehnchaaW.Splay
open Go.RowKit Go.Shelf Go.Proofs.YtcnmbgijehnchaaW.PrintWords Go.Proofs.YtcnmbgijehnchaaW.PrintLast Go.Proofs.YtcnmbgijehnchaaW.PrintMore Go.Proofs.YtcnmbgijehnchaaW.Mine
attribute [local go_sem] max2_int min2_int max_two min_two max_three min_three max_four min_four Oper.semAt_some
set_option maxHeartbeats 16000000 in
set_option maxRecDepth 100000 in
theorem star_law {w : World} {c1 c2 : Int} (hc1 : (Lit.int .i64 c1).wf = true) (hc2 : (Lit.int .i64 c2).wf = true) :
    Calls Try.prog 10 #[.int .i64 c1, .int .i64 c2] w fun e w' => e = .returned (.bool true) ∧ Below w.heap.size w w' := by
  obtain ⟨a1, a2⟩ := wf_bounds hc1
  obtain ⟨b1, b2⟩ := wf_bounds hc2
  have p1 := pk_range (c := c1) (n := 40) (by decide)
  obtain ⟨n, hn, hn2, hn3⟩ : ∃ n : Nat, pk c1 40 = ((n : Int) - 2) ∧ 2 ≤ n ∧ n < 42 := ⟨(pk c1 40 + 2).toNat, by omega, by omega, by omega⟩
  have p2 := pk_range (c := c2) (n := (n : Int) - 1) (by omega)
  obtain ⟨k, hk, hk1, hk3⟩ : ∃ k : Nat, pk c2 ((n : Int) - 1) = (k : Int) - 1 ∧ 1 ≤ k ∧ k < n := ⟨(pk c2 ((n : Int) - 1) + 1).toNat, by omega, by omega, by omega⟩
  have HN := Aside0.mk (And.intro hn2 hn3)
  have HKN := Aside0.mk (And.intro hk1 hk3)
  have HKI : Aside0 ((1 : Int) ≤ (k : Int) ∧ (k : Int) < (n : Int)) := ⟨by omega⟩
  have H1 := Aside0.mk (And.intro a1 a2)
  have H2 := Aside0.mk (And.intro b1 b2)
  have HP1 := Aside0.mk hn
  have HP2 := Aside0.mk hk
  have HVL : Aside0 ((List.replicate n (0 : Int)).length = n) := ⟨by simp⟩
  have HVB := Aside0.mk (zeros_bd n)
  have HNP : Aside0 (0 < n ∧ n ≤ 3000 ∧ (0 : Int) < (n : Int) - 1) := ⟨by omega⟩
  have hmk := make_i64 n (by omega)
  have hi2 : (2 + ((n : Int) - 2)) = (n : Int) := by omega
  have hi3 : (1 + ((k : Int) - 1)) = (k : Int) := by omega
  clear p1 p2
  have hw2 : wrap64 (2 + ((n : Int) - 2)) = (n : Int) := by rw [w64s (by omega) (by omega)]; omega
  have hw3 : wrap64 (1 + ((k : Int) - 1)) = (k : Int) := by clear hw2; rw [w64s (by omega) (by omega)]; omega
  have hw5 : wrap64 (n : Int) = (n : Int) := by clear hw2 hw3; exact w64s (by omega) (by omega)
  have hw6 : wrap64 (k : Int) = (k : Int) := by clear hw2 hw3 hw5; exact w64s (by omega) (by omega)
  have hw7 : wrap64 ((n : Int) - 1) = (n : Int) - 1 := by clear hw2 hw3 hw5 hw6; exact w64s (by omega) (by omega)
  have hn10 : ((n : Int) - 1 == 0) = false := by clear hw2 hw3 hw5 hw6 hw7; exact beq_eq_false_iff_ne.mpr (by omega)
  clear hn hn2 hn3 hk hk1 hk3 a1 a2 b1 b2 hc1 hc2
  go_enter Try.func10, Try.ntmps10
  go_wp2_with (first
    | (go_at_call 27; (with_reducible refine (shown10_calls _).mono ?_); rintro e w1 ⟨rfl, hB⟩; have HB1 := Aside0.mk hB; clear hB)
    | (go_at_call 29; (with_reducible refine (pick10_calls _ H1.out.1 H1.out.2 (by decide)).mono ?_); rw [HP1.out]; rintro e w' ⟨rfl, hw'⟩; have hw' := hw'.symm; subst hw')
    | (go_at_call 28; (refine (tnew_calls (w0 := w) HVL.out (HB1.out.trans ((below_alloc (Below.refl _ _) _).mono HB1.out.size)) Rds.zeros HNP.out.2.1 HNP.out.1 HVB.out).mono ?_); rintro e w2 ⟨D, rfl, hN, _, _, _, _, hB, hT⟩; rw [← star_bare] at hT; have HD : Aside0 ((D.N : Int) = (n : Int)) := ⟨by rw [hN]⟩; have HT := Aside0.mk hT; clear hN hB hT))
  clear hmk
  go_loopg [9] n (fun kq v9 wq => ∃ (i : Nat), v9 = .int .i64 (i : Int) ∧ Aside0 (i + kq = n + 1 ∧ 0 < kq ∧ 1 ≤ i) ∧ Aside0 (Tm D w wq (starUp (i : Int)) (worth (List.replicate n 0))))
  case atStart => exact ⟨1, rfl, ⟨by have h_ := HN.out; clear hw2 hw3 hw5 hw6 hw7; omega⟩, HT⟩
  case round =>
    clear HT
    obtain ⟨i, rfl, HK, HT⟩ := hrel
    by_cases c1 : i < n
    · as_aux_lemma =>
        have hwi : wrap64 ((i : Int) + 1) = (i : Int) + 1 := by have h_ := HK.out; have h2_ := HN.out; clear hw2 hw3 hw5 hw6 hw7; exact w64s (by omega) (by omega)
        have hlt : ((i : Int) < (n : Int)) = True := eq_true (Int.ofNat_lt.2 c1)
        have HC := Aside0.mk (star_next (N := (D.N : Int)) (i := (i : Int)) (by have h_ := HK.out; clear hw2 hw3 hw5 hw6 hw7 hwi; omega) (by rw [HD.out]; exact Int.ofNat_lt.2 c1))
        have HI : Aside0 ((1 : Int) ≤ (i : Int)) := ⟨by have h_ := HK.out; clear hw2 hw3 hw5 hw6 hw7 hwi; omega⟩
        go_wp2_with (go_at_call 30; (with_reducible refine (link_ok HT.out HC.out.1 HC.out.2.1 HC.out.2.2.1 HC.out.2.2.2.1 HC.out.2.2.2.2).mono ?_); rintro e w3 ⟨rfl, hT, hK⟩; rw [star_put HI.out] at hT; have HT3 := Aside0.mk hT; clear hT hK)
        go_roundg (n - i)
        case measure => have h_ := HK.out; clear hw2 hw3 hw5 hw6 hw7 hwi; omega
        case rel =>
          have h_ := HK.out
          exact ⟨i + 1, congrArg (Value.int .i64) hwi, ⟨by clear hw2 hw3 hw5 hw6 hw7 hwi; omega⟩, HT3⟩
    · as_aux_lemma =>
        have hlt : ((i : Int) < (n : Int)) = False := eq_false (fun h => c1 (Int.ofNat_lt.1 h))
        have hin : i = n := by have h_ := HK.out; clear hw2 hw3 hw5 hw6 hw7; omega
        subst hin
        have HW := Aside0.mk (star_way HD.out HKI.out.1 HKI.out.2)
        have HSR := Aside0.mk (star_turn HKI.out.1 HKI.out.2)
        have HTOP := Aside0.mk (starAt_top HD.out HKI.out.1 HKI.out.2)
        go_wp2_with (first
          | (go_at_call 29; (with_reducible refine (pick10_calls _ H2.out.1 H2.out.2 HNP.out.2.2).mono ?_); rw [HP2.out]; rintro e w' ⟨rfl, hw'⟩; have hw' := hw'.symm; subst hw')
          | (go_at_call 35; (with_reducible refine (evert_calls HT.out HW.out).mono ?_); rw [HSR.out]; rintro e w4 ⟨rfl, hT, hK⟩; have HT4 := Aside0.mk hT; clear hT hK)
          | (go_at_call 33; (with_reducible refine (above_calls HT4.out HTOP.out.2.1).mono ?_); rw [HTOP.out.1]; rintro e w5 ⟨rfl, hT, hK⟩; have HT5 := Aside0.mk hT; clear hT hK)
          | (go_at_call 33; (with_reducible refine (above_calls HT5.out HTOP.out.2.2.2).mono ?_); rw [HTOP.out.2.2.1]; rintro e w6 ⟨rfl, hT, hK⟩; have HT6 := Aside0.mk hT; clear hT hK))
        go_loopg [11] i (fun kq v11 wr => ∃ (j : Nat), v11 = .int .i64 (j : Int) ∧ Aside0 (j + kq = i + 1 ∧ 0 < kq ∧ 1 ≤ j) ∧ Aside0 (Tm D w wr (starAt (i : Int) (k : Int)) (worth (List.replicate i 0))))
        case atStart => exact ⟨1, rfl, ⟨by have h_ := HN.out; clear hw2 hw3 hw5 hw6 hw7; omega⟩, HT6⟩
        case round =>
          clear HT6 HT hlt
          obtain ⟨j, rfl, HK2, HT7⟩ := hrel
          by_cases c2 : j < i
          · have hlt2 : ((j : Int) < (i : Int)) = True := eq_true (Int.ofNat_lt.2 c2)
            have hwj : wrap64 ((j : Int) + 1) = (j : Int) + 1 := by have h_ := HK2.out; have h2_ := HN.out; clear hw2 hw3 hw5 hw6 hw7; exact w64s (by omega) (by omega)
            by_cases c3 : (j : Int) = (k : Int)
            · as_aux_lemma =>
                obtain rfl := Int.ofNat_inj.1 c3
                clear c3
                go_wp2_with (go_at_call 32; (with_reducible refine (root_calls HT7.out HTOP.out.2.2.2).mono ?_); rintro e w8 ⟨rfl, hT, hK⟩; have HT8 := Aside0.mk hT; clear hT hK)
                go_roundg (i - j)
                case measure => have h_ := HK2.out; clear hw2 hw3 hw5 hw6 hw7 hwj; omega
                case rel =>
                  have h_ := HK2.out
                  exact ⟨j + 1, congrArg (Value.int .i64) hwj, ⟨by clear hw2 hw3 hw5 hw6 hw7 hwj; omega⟩, HT8⟩
            · as_aux_lemma =>
                have hb : ((j : Int) == (k : Int)) = false := beq_eq_false_iff_ne.mpr c3
                have HO := Aside0.mk (starAt_other HD.out HKI.out.1 HKI.out.2 (i := (j : Int)) (by have h_ := HK2.out; clear hw2 hw3 hw5 hw6 hw7 hwj; omega) (Int.ofNat_lt.2 c2) c3)
                have HL3 : Aside0 (([(j : Int), 0] ++ [(k : Int)]).length = 3) := ⟨rfl⟩
                have HL4 : Aside0 ([(k : Int), 0, (j : Int)].length ≤ 1000000) := ⟨show 3 ≤ 1000000 by decide⟩
                go_wp2_with (first
                  | (go_at_call 33; (with_reducible refine (above_calls HT7.out HO.out.2).mono ?_); rw [HO.out.1]; rintro e w8 ⟨rfl, hT, hK⟩; have HT8 := Aside0.mk hT; clear hT hK)
                  | (go_at_call 34; (with_reducible refine (path_calls HT8.out HO.out.2).mono ?_); rw [HL3.out]; rintro e w9 ⟨g, c, rfl, hc, hm, hg, hrow, hT, hK⟩; have HT9 := Aside0.mk hT; have HR := Aside0.mk (show RowC w9 g [(k : Int), 0, (j : Int)] from hrow); clear hT hK hrow hg hc hm)
                  | (go_at_call 36; ((refine (same10_self (xs := [(k : Int), 0, (j : Int)]) (HR.out.all.below (below_alloc (Below.refl _ _) _)) (Rds.lit [(k : Int), 0, (j : Int)]) HL4.out).mono ?_); rintro e w10 ⟨rfl, hd⟩; have HT10 := Aside0.mk ((HT9.out.below (below_alloc (Below.refl _ _) _)).below hd.below); clear hd))
                  | (go_at_call 32; (with_reducible refine (root_calls HT10.out HO.out.2).mono ?_); rintro e w11 ⟨rfl, hT, hK⟩; have HT11 := Aside0.mk hT; clear hT hK))
                go_roundg (i - j)
                case measure => have h_ := HK2.out; clear hw2 hw3 hw5 hw6 hw7 hwj; omega
                case rel =>
                  have h_ := HK2.out
                  exact ⟨j + 1, congrArg (Value.int .i64) hwj, ⟨by clear hw2 hw3 hw5 hw6 hw7 hwj; omega⟩, HT11⟩
          · as_aux_lemma =>
              have hlt2 : ((j : Int) < (i : Int)) = False := eq_false (fun h => c2 (Int.ofNat_lt.1 h))
              go_wp2
              clear hlt2 HK2 c2
              have hz := HT7.out
              rw [← cutTo_zero HKI.out.1] at hz
              have HT12 := Aside0.mk hz
              clear hz
              go_loopg [12] (i + 1) (fun kq v12 ws => ∃ (y : Nat), v12 = .int .i64 (y : Int) ∧ Aside0 (y + kq = i + 1 ∧ 0 < kq) ∧ Aside0 (Tm D w ws (cutTo (starAt (i : Int) (k : Int)) (y : Int)) (worth (List.replicate i 0))))
              case atStart => exact ⟨0, rfl, ⟨by have h_ := HN.out; clear hw2 hw3 hw5 hw6 hw7; omega⟩, HT12⟩
              case round =>
                clear HT12 HT7
                obtain ⟨y, rfl, HK3, HT13⟩ := hrel
                by_cases c4 : y < i
                · have hlt3 : ((y : Int) < (i : Int)) = True := eq_true (Int.ofNat_lt.2 c4)
                  have hwy : wrap64 ((y : Int) + 1) = (y : Int) + 1 := by have h_ := HK3.out; have h2_ := HN.out; clear hw2 hw3 hw5 hw6 hw7; exact w64s (by omega) (by omega)
                  have HY : Aside0 ((0 : Int) ≤ (y : Int) ∧ (y : Int) < (D.N : Int)) := ⟨by rw [HD.out]; clear hw2 hw3 hw5 hw6 hw7 hwy; omega⟩
                  have HY2 : Aside0 (Way (D.N : Int) (cutTo (starAt (i : Int) (k : Int)) ((y : Int) + 1)) (y : Int) ([] ++ [(y : Int)])) := ⟨cutTo_root HY.out.1 HY.out.2 (by clear hw2 hw3 hw5 hw6 hw7 hwy; omega)⟩
                  by_cases c5 : (y : Int) = (k : Int)
                  · as_aux_lemma =>
                      obtain rfl := Int.ofNat_inj.1 c5
                      clear c5
                      have HCN : Aside0 (cutTo (starAt (i : Int) (y : Int)) (y : Int) (y : Int) = -1) := ⟨cutTo_at.trans HTOP.out.2.2.1⟩
                      go_wp2_with (first
                        | (go_at_call 31; (with_reducible refine (cut_no HT13.out HY.out.1 HY.out.2 HCN.out).mono ?_); rw [cutTo_put]; rintro e w8 ⟨rfl, hT, hK⟩; have HT14 := Aside0.mk hT; clear hT hK)
                        | (go_at_call 32; (with_reducible refine (root_calls HT14.out HY2.out).mono ?_); rintro e w9 ⟨rfl, hT, hK⟩; have HT15 := Aside0.mk hT; clear hT hK))
                      go_roundg (i - y)
                      case measure => have h_ := HK3.out; clear hw2 hw3 hw5 hw6 hw7 hwy; omega
                      case rel =>
                        have h_ := HK3.out
                        exact ⟨y + 1, congrArg (Value.int .i64) hwy, ⟨by clear hw2 hw3 hw5 hw6 hw7 hwy; omega⟩, HT15⟩
                  · as_aux_lemma =>
                      have hb : ((y : Int) == (k : Int)) = false := beq_eq_false_iff_ne.mpr c5
                      have hbn : ((y : Int) != (k : Int)) = true := bne_iff_ne.mpr c5
                      have HCN : Aside0 (cutTo (starAt (i : Int) (k : Int)) (y : Int) (y : Int) ≠ -1) := ⟨by rw [cutTo_at]; exact starAt_ne HKI.out.1 HKI.out.2 HY.out.1 (by rw [← HD.out]; exact HY.out.2) c5⟩
                      go_wp2_with (first
                        | (go_at_call 31; (with_reducible refine (cut_ok HT13.out HY.out.1 HY.out.2 HCN.out).mono ?_); rw [cutTo_put]; rintro e w8 ⟨rfl, hT, hK⟩; have HT14 := Aside0.mk hT; clear hT hK)
                        | (go_at_call 32; (with_reducible refine (root_calls HT14.out HY2.out).mono ?_); rintro e w9 ⟨rfl, hT, hK⟩; have HT15 := Aside0.mk hT; clear hT hK))
                      go_roundg (i - y)
                      case measure => have h_ := HK3.out; clear hw2 hw3 hw5 hw6 hw7 hwy; omega
                      case rel =>
                        have h_ := HK3.out
                        exact ⟨y + 1, congrArg (Value.int .i64) hwy, ⟨by clear hw2 hw3 hw5 hw6 hw7 hwy; omega⟩, HT15⟩
                · as_aux_lemma =>
                    have hlt3 : ((y : Int) < (i : Int)) = False := eq_false (fun h => c4 (Int.ofNat_lt.1 h))
                    have hyi : y = i := by have h_ := HK3.out; clear hw2 hw3 hw5 hw6 hw7; omega
                    subst hyi
                    have HF0 : Aside0 (cutTo (starAt (y : Int) (k : Int)) (y : Int) 0 = -1 ∧ (0 : Int) ≤ 0 ∧ (0 : Int) < (D.N : Int) ∧ Way (D.N : Int) (cutTo (starAt (y : Int) (k : Int)) (y : Int)) (k : Int) [(k : Int)] ∧ (0 : Int) ∉ [(k : Int)]) := ⟨by
                      have h1_ := HD.out
                      have h2_ := HKI.out
                      clear hw2 hw3 hw5 hw6 hw7
                      refine ⟨if_pos (by omega), by omega, by omega, Way.mk_root (by omega) (by omega) (if_pos (by omega)), by simp; omega⟩⟩
                    go_wp2_with (go_at_call 30; (with_reducible refine (link_ok HT13.out HF0.out.1 HF0.out.2.1 HF0.out.2.2.1 HF0.out.2.2.2.1 HF0.out.2.2.2.2).mono ?_); rintro e w9 ⟨rfl, hT, hK⟩; have HT15 := Aside0.mk hT; clear hT hK)
                    go_ret
                    exact ⟨rfl, HT15.out.old⟩
end Go.Proofs.YtcnmbgijehnchaaW.Splay
