/- ForestBack (walk by hand; printed by mkM7.py). -/
import Derived.Test.YtcnmbgijehnchaaM6
set_option linter.unusedVariables false
set_option linter.unusedSimpArgs false
namespace Go.Proofs.YtcnmbgijehnchaaW.Splay
open Go.RowKit Go.Shelf Go.Proofs.YtcnmbgijehnchaaW.PrintWords Go.Proofs.YtcnmbgijehnchaaW.PrintLast Go.Proofs.YtcnmbgijehnchaaW.PrintMore Go.Proofs.YtcnmbgijehnchaaW.Mine
attribute [local go_sem] max2_int min2_int max_two min_two max_three min_three max_four min_four Oper.semAt_some
set_option maxHeartbeats 16000000 in
set_option maxRecDepth 100000 in
theorem back10_law {w : World} {c1 ca cb : Int} {A : Option Addr} {l : List Ac} {c : Nat} (hc1 : (Lit.int .i64 c1).wf = true) (hr : RdA w A l) (hca : (Lit.int .i64 ca).wf = true) (hcb : (Lit.int .i64 cb).wf = true) :
    Calls Try.prog 9 #[.int .i64 c1, .slice A l.length c, .int .i64 ca, .int .i64 cb] w fun e w' => e = .returned (.bool true) ∧ Below w.heap.size w w' := by
  have HR := Aside0.mk hr
  clear hr
  by_cases c0 : 100 < l.length
  · have c1b : (100 : Int) < (l.length : Int) := by omega
    go_enter Try.func9, Try.ntmps9
    go_wp2_with (go_at_call 27; (with_reducible refine (shown10_calls _).mono ?_); rintro e w1 ⟨rfl, hB⟩; have HB1 := Aside0.mk hB; clear hB)
    go_ret
    exact ⟨rfl, HB1.out⟩
  · obtain ⟨a1, a2⟩ := wf_bounds hc1
    have HXA := Aside0.mk (wf_bounds hca)
    have HXB := Aside0.mk (wf_bounds hcb)
    have p1 := pk_range (c := c1) (n := 14) (by decide)
    obtain ⟨n, hn, hn2, hn3⟩ : ∃ n : Nat, pk c1 14 = ((n : Int) - 2) ∧ 2 ≤ n ∧ n < 16 := ⟨(pk c1 14 + 2).toNat, by omega, by omega, by omega⟩
    have c1b : (l.length : Int) ≤ 100 := by omega
    have c1c : decide ((100 : Int) < (l.length : Int)) = false := decide_eq_false (by omega)
    have HN := Aside0.mk (And.intro hn2 hn3)
    have H1 := Aside0.mk (And.intro a1 a2)
    have HP1 := Aside0.mk hn
    have HC0 := Aside0.mk c0
    have HVL : Aside0 ((List.replicate n (0 : Int)).length = n) := ⟨by simp⟩
    have HVB := Aside0.mk (zeros_bd n)
    have HNP : Aside0 (0 < n ∧ n ≤ 3000) := ⟨by omega⟩
    have hmk := make_i64 n (by omega)
    have hmu := make_ints n (by omega)
    have hi2 : (2 + ((n : Int) - 2)) = (n : Int) := by omega
    have hn0 : (0 : Int) < (n : Int) := by omega
    clear p1
    have hw2 : wrap64 (2 + ((n : Int) - 2)) = (n : Int) := by rw [w64s (by omega) (by omega)]; omega
    have hw5 : wrap64 (n : Int) = (n : Int) := by clear hw2; exact w64s (by omega) (by omega)
    obtain ⟨x, hx⟩ : ∃ x : Nat, pk ca (n : Int) = (x : Int) := ⟨(pk ca (n : Int)).toNat, by have h_ := pk_range (c := ca) hn0; clear hw2 hw5; omega⟩
    obtain ⟨y, hy⟩ : ∃ y : Nat, pk cb (n : Int) = (y : Int) := ⟨(pk cb (n : Int)).toNat, by have h_ := pk_range (c := cb) hn0; clear hw2 hw5; omega⟩
    have HPA : Aside0 (pk ca (n : Int) = (x : Int) ∧ 0 ≤ (x : Int) ∧ (x : Int) < (n : Int)) := ⟨⟨hx, by rw [← hx]; exact pk_range hn0⟩⟩
    have HPB : Aside0 (pk cb (n : Int) = (y : Int) ∧ 0 ≤ (y : Int) ∧ (y : Int) < (n : Int)) := ⟨⟨hy, by rw [← hy]; exact pk_range hn0⟩⟩
    clear hn hn2 hn3 a1 a2 hc1 hca hcb c0 hx hy
    go_enter Try.func9, Try.ntmps9
    go_wp2_with (first
      | (go_at_call 27; (with_reducible refine (shown10_calls _).mono ?_); rintro e w1 ⟨rfl, hB⟩; have HB1 := Aside0.mk hB; clear hB)
      | (go_at_call 29; (with_reducible refine (pick10_calls _ H1.out.1 H1.out.2 (by decide)).mono ?_); rw [HP1.out]; rintro e w' ⟨rfl, hw'⟩; have hw' := hw'.symm; subst hw')
      | (go_at_call 28; (refine (tnew_calls (w0 := w) HVL.out (HB1.out.trans ((below_alloc (Below.refl _ _) _).mono HB1.out.size)) Rds.zeros HNP.out.2 HNP.out.1 HVB.out).mono ?_); rintro e w2 ⟨D, rfl, hN, _, _, _, _, hB, hT⟩; have HD : Aside0 ((D.N : Int) = (n : Int)) := ⟨by rw [hN]⟩; have HT := Aside0.mk hT; clear hN hB hT))
    have HW5 := Aside0.mk hw5
    clear hmk c1c hw2 hw5 hi2
    go_loopg [13] (l.length + 1) (fun kq v13 wq => ∃ (q : Nat) (up : Int → Int), v13 = .int .i64 (q : Int) ∧ Aside0 (q + kq = l.length + 1 ∧ 0 < kq) ∧ Aside0 (Tm D w wq up (worth (List.replicate n 0))))
    case atStart => exact ⟨0, _, rfl, ⟨by omega⟩, HT⟩
    case round =>
      clear HT
      obtain ⟨q, up, rfl, HK, HT⟩ := hrel
      by_cases c6 : q < l.length
      · as_aux_lemma =>
          have hlt : (q : Int) < (l.length : Int) := Int.ofNat_lt.2 c6
          have q0 : (0 : Int) ≤ (q : Int) := Int.natCast_nonneg q
          obtain ⟨a, ac, rfl, hac, ⟨wo, wx, wy, wd⟩, r0, r1, r2⟩ := HR.out.at HT.out.old c6
          obtain ⟨oo, hoo⟩ : ∃ z, ac.op = z := ⟨_, rfl⟩
          obtain ⟨xx, hxx⟩ : ∃ z, ac.x = z := ⟨_, rfl⟩
          obtain ⟨yy, hyy⟩ : ∃ z, ac.y = z := ⟨_, rfl⟩
          rw [hoo] at wo r0
          rw [hxx] at wx r1
          rw [hyy] at wy r2
          have HWO := Aside0.mk (wf_bounds wo)
          have HWX := Aside0.mk (wf_bounds wx)
          have HWY := Aside0.mk (wf_bounds wy)
          obtain ⟨x1, hx⟩ : ∃ z, pk xx (n : Int) = z := ⟨_, rfl⟩
          obtain ⟨y1, hy⟩ : ∃ z, pk yy (n : Int) = z := ⟨_, rfl⟩
          obtain ⟨o, ho⟩ : ∃ z, pk oo 4 = z := ⟨_, rfl⟩
          have po := pk_range (c := oo) (n := 4) (by decide)
          rw [ho] at po
          have HPX : Aside0 (pk xx (n : Int) = x1 ∧ 0 ≤ x1 ∧ x1 < (D.N : Int)) := ⟨by rw [HD.out, ← hx]; exact ⟨rfl, pk_range hn0⟩⟩
          have HPY : Aside0 (pk yy (n : Int) = y1 ∧ 0 ≤ y1 ∧ y1 < (D.N : Int)) := ⟨by rw [HD.out, ← hy]; exact ⟨rfl, pk_range hn0⟩⟩
          have HK4 : Aside0 (q + 1 + (l.length - q) = l.length + 1 ∧ 0 < l.length - q ∧ l.length - q < gk) := ⟨by have h_ := HK.out; omega⟩
          have HWQ : Aside0 (wrap64 ((q : Int) + 1) = (q : Int) + 1) := ⟨by have h_ := HC0.out; exact w64s (by omega) (by omega)⟩
          have ho4 : o = 0 ∨ o = 1 ∨ o = 2 ∨ o = 3 := by omega
          clear hac wo wx wy wd hoo hxx hyy hx hy po
          rcases ho4 with rfl | rfl | rfl | rfl
          all_goals
            as_aux_lemma =>
              have HPO := Aside0.mk ho
              clear ho
              go_wp2_with (first
                | (go_at_call 29; (with_reducible refine (pick10_calls _ HWX.out.1 HWX.out.2 hn0).mono ?_); rw [HPX.out.1]; rintro e w' ⟨rfl, hw'⟩; have hw' := hw'.symm; subst hw')
                | (go_at_call 29; (with_reducible refine (pick10_calls _ HWY.out.1 HWY.out.2 hn0).mono ?_); rw [HPY.out.1]; rintro e w' ⟨rfl, hw'⟩; have hw' := hw'.symm; subst hw')
                | (go_at_call 29; (with_reducible refine (pick10_calls _ HWO.out.1 HWO.out.2 (by decide)).mono ?_); rw [HPO.out]; rintro e w' ⟨rfl, hw'⟩; have hw' := hw'.symm; subst hw')
                | (go_at_call 30; (with_reducible refine (link_any HT.out HPX.out.2.1 HPX.out.2.2 HPY.out.2.1 HPY.out.2.2).mono ?_); rintro e w3 ⟨rr, up3, rfl, hT, hK⟩; have HT3 := Aside0.mk hT; clear hT hK)
                | (go_at_call 31; (with_reducible refine (cut_any HT.out HPX.out.2.1 HPX.out.2.2).mono ?_); rintro e w3 ⟨rr, up3, rfl, hT, hK⟩; have HT3 := Aside0.mk hT; clear hT hK)
                | (go_at_call 35; (with_reducible refine (evert_any HT.out HPX.out.2.1 HPX.out.2.2).mono ?_); rintro e w3 ⟨rr, up3, rfl, hT, hK⟩; have HT3 := Aside0.mk hT; clear hT hK))
              go_roundg (l.length - q)
              case measure => exact HK4.out.2.2
              case rel => exact ⟨q + 1, _, by first | rfl | exact congrArg (Value.int .i64) HWQ.out, ⟨⟨HK4.out.1, HK4.out.2.1⟩⟩, HT3⟩
      · as_aux_lemma =>
          have hlt : ((q : Int) < (l.length : Int)) = False := eq_false (fun h => c6 (Int.ofNat_lt.1 h))
          have HV0 : Aside0 (Va (wr.alloc (.cells (madeCells #[.int .i64 0] n) 3)) wr.heap.size n 3 (backArr up 0)) := ⟨(Va.new wr n 3 (.int .i64 0)).fun_ (fun j _ => by unfold backArr; rw [if_neg (Nat.not_lt_zero j)])⟩
          have HT0 : Aside0 (Tm D w (wr.alloc (.cells (madeCells #[.int .i64 0] n) 3)) up (worth (List.replicate n 0))) := ⟨HT.out.below (below_alloc (Below.refl _ _) _)⟩
          have HFU := Aside0.mk (HT.out.far (Nat.le_refl _))
          have hw5 := HW5.out
          go_wp2
          obtain ⟨gu, hgu⟩ : ∃ g, wr.heap.size = g := ⟨_, rfl⟩
          rw [hgu] at HFU HV0 ⊢
          clear hgu HT hw5 hlt hmu c1b HK
          go_loopg [17] (n + 1) (fun kq v17 wq => ∃ (v : Nat), v17 = .int .i64 (v : Int) ∧ Aside0 (v + kq = n + 1 ∧ 0 < kq) ∧ Aside0 (Tm D w wq up (worth (List.replicate n 0))) ∧ Aside0 (Va wq gu n 3 (backArr up v)))
          case atStart => exact ⟨0, rfl, ⟨by omega⟩, HT0, HV0⟩
          case round =>
            clear HT0 HV0
            obtain ⟨v, rfl, HK2, HT, HV⟩ := hrel
            by_cases cv : v < n
            · as_aux_lemma =>
                have hvn : (v : Int) < (n : Int) := Int.ofNat_lt.2 cv
                have hlt : ((v : Int) < (n : Int)) = True := eq_true hvn
                have hv0 : (0 : Int) ≤ (v : Int) := Int.natCast_nonneg v
                obtain ⟨P, hP⟩ := HT.out.ok (v : Int) hv0 (by rw [HD.out]; exact hvn)
                obtain ⟨a, r, rfl⟩ := hP.last_
                have HP := Aside0.mk hP
                obtain ⟨m, hm⟩ : ∃ m, a.length = m := ⟨_, rfl⟩
                obtain ⟨L, hL⟩ : ∃ L, (a ++ [r]).length = L := ⟨_, rfl⟩
                have HM := Aside0.mk hm
                have HL := Aside0.mk hL
                have HLM : Aside0 (L = m + 1 ∧ L ≤ n) := ⟨by rw [← hL]; exact ⟨by rw [List.length_append, hm]; rfl, hP.len HD.out⟩⟩
                have HRW : Aside0 (Way (D.N : Int) up r [r]) := ⟨hP.sub⟩
                have HUR : Aside0 (up r = -1) := ⟨HRW.out.root⟩
                have hL0 : ((L : Int) == 0) = false := beq_eq_false_iff_ne.mpr (by have h_ := HLM.out; omega)
                have hLn : ((n : Int) < (L : Int)) = False := eq_false (by have h_ := HLM.out; omega)
                have hLn2 : decide ((n : Int) < (L : Int)) = false := decide_eq_false (by have h_ := HLM.out; omega)
                have hmL : (m : Int) < (L : Int) := by have h_ := HLM.out; omega
                have hm0 : (0 : Int) ≤ (m : Int) := Int.natCast_nonneg m
                have hL1 : (0 : Int) < (L : Int) := by omega
                have hL1n : 0 < L := by have h_ := HLM.out; omega
                have HCE : Aside0 ((a ++ [r]).reverse[0]? = some r ∧ (a ++ [r]).reverse[m]? = some (v : Int)) := ⟨⟨down_first, by rw [← hm]; exact down_end hP⟩⟩
                have HWL : Aside0 (wrap64 ((L : Int) - 1) = (m : Int)) := ⟨by have h_ := HLM.out; have h2_ := HN.out; rw [w64s (by omega) (by omega)]; omega⟩
                have HWV : Aside0 (wrap64 ((v : Int) + 1) = (v : Int) + 1) := ⟨by have h2_ := HN.out; exact w64s (by omega) (by omega)⟩
                clear hP hm hL
                go_wp2_with (first
                  | (go_at_call 33; (with_reducible refine (above_calls HT.out HP.out).mono ?_); rintro e w3 ⟨rfl, hT, hK⟩; have HT3 := Aside0.mk (hT.set_far HFU.out v (.int .i64 (up (v : Int)))); have hV3 := HV.out.kt hK HFU.out.kt; obtain ⟨hc3, hf3⟩ := hV3.get cv; have HV3 : Aside0 (Va (w3.setCell ⟨gu, v, none⟩ (.int .i64 (up (v : Int)))) gu n 3 (backArr up (v + 1))) := ⟨(hV3.set v (.int .i64 (up (v : Int)))).fun_ (fun j _ => back_arr j)⟩; clear hT hK hV3)
                  | (go_at_call 34; (with_reducible refine (path_calls HT3.out HP.out).mono ?_); rw [HL.out]; rintro e w4 ⟨g, c4, rfl, hc, hm4, hg, hrow, hT, hK⟩; have HR4 := Aside0.mk hrow; have HFG := Aside0.mk (HT3.out.far hg); have HT4 := Aside0.mk hT; have HV4 := Aside0.mk (HV3.out.kt hK HFU.out.kt); have hLc : (L : Int) ≤ (c4 : Int) := Int.ofNat_le.2 hc; clear hT hK hrow hg hc hm4))
                have HT5 := Aside0.mk (HT4.out.below (below_drew (Below.refl _ _)))
                have HV5 := Aside0.mk (HV4.out.below (below_drew (Below.refl _ _)))
                have HR5 := Aside0.mk (HR4.out.below (below_drew (Below.refl _ _)))
                have hwl := HWL.out
                have hwl2 : IntKind.i64.wrap ((L : Int) - 1) = (m : Int) := by have h_ := HLM.out; have h2_ := HN.out; clear hwl; rw [i64s (by omega) (by omega)]; omega
                have hS5 : w4.drew.cell? ⟨g, 0, none⟩ = some (.int .i64 r) ∧ w4.drew.cell? ⟨g, m, none⟩ = some (.int .i64 (v : Int)) := ⟨HR5.out.get HCE.out.1, HR5.out.get HCE.out.2⟩
                clear HT4 HV4 HR4 HT3 HV3 HT HV
                refine wp_region_held_drew (S := (fun W_ => W_.cell? ⟨g, 0, none⟩ = some (.int .i64 r) ∧ W_.cell? ⟨g, m, none⟩ = some (.int .i64 (v : Int)))) (by kernel_rfl) (show _ from hS5) (fun hHeld => ?_)
                refine wpAnyH_take (i := 0) (oi := { dst := some 106, op := Op.move (Operand.tmp 18), type := 22, pos := "law.go:175", after := #[], guard := none }) (v := ?_) rfl (by kernel_rfl) (by kernel_rfl) (by kernel_rfl) (fun _ _ _ h => h) (Or.inl ⟨by rfl, ?hy0⟩) (by assumption) ?_
                case hy0 => (intro w_ hSw; (try dsimp only at hSw); go_simp; try (with_reducible rfl))
                (try simp only [Act.put, List.setIfInBounds_toArray, List.set_cons_zero, List.set_cons_succ])
                refine wpAnyH_take (i := 1) (oi := { dst := some 107, op := Op.call { callee := Callee.builtin Builtin.len, args := #[Operand.tmp 106], argTypes := #[22] }, type := 3, pos := "law.go:175", after := #[{ on := 0, ground := Ground.data }], guard := none }) (v := ?_) rfl (by kernel_rfl) (by kernel_rfl) (by kernel_rfl) (fun _ _ _ h => h) (Or.inl ⟨by rfl, ?hy1⟩) (by assumption) ?_
                case hy1 => (intro w_ hSw; (try dsimp only at hSw); go_simp; try (with_reducible rfl))
                (try simp only [Act.put, List.setIfInBounds_toArray, List.set_cons_zero, List.set_cons_succ])
                refine wpAnyH_take (i := 2) (oi := { dst := some 108, op := Op.binOp BinOp.eql 3 (Operand.tmp 107) (Operand.const (Value.int IntKind.i64 0)) 3, type := 4, pos := "law.go:175", after := #[{ on := 1, ground := Ground.data }], guard := none }) (v := ?_) rfl (by kernel_rfl) (by kernel_rfl) (by kernel_rfl) (fun _ _ _ h => h) (Or.inl ⟨by rfl, ?hy2⟩) (by assumption) ?_
                case hy2 => (intro w_ hSw; (try dsimp only at hSw); go_simp; try (with_reducible rfl))
                (try simp only [Act.put, List.setIfInBounds_toArray, List.set_cons_zero, List.set_cons_succ])
                refine wpAnyH_take (i := 3) (oi := { dst := some 109, op := Op.move (Operand.tmp 108), type := 4, pos := "law.go:175", after := #[{ on := 2, ground := Ground.data }], guard := none }) (v := ?_) rfl (by kernel_rfl) (by kernel_rfl) (by kernel_rfl) (fun _ _ _ h => h) (Or.inl ⟨by rfl, ?hy3⟩) (by assumption) ?_
                case hy3 => (intro w_ hSw; (try dsimp only at hSw); go_simp; try (with_reducible rfl))
                (try simp only [Act.put, List.setIfInBounds_toArray, List.set_cons_zero, List.set_cons_succ])
                refine wpAnyH_take (i := 4) (oi := { dst := some 110, op := Op.move (Operand.tmp 18), type := 22, pos := "law.go:175", after := #[{ on := 3, ground := Ground.guard }], guard := some (3, false) }) (v := ?_) rfl (by kernel_rfl) (by kernel_rfl) (by kernel_rfl) (fun _ _ _ h => h) (Or.inl ⟨by rfl, ?hy4⟩) (by assumption) ?_
                case hy4 => (intro w_ hSw; (try dsimp only at hSw); go_simp; try (with_reducible rfl))
                (try simp only [Act.put, List.setIfInBounds_toArray, List.set_cons_zero, List.set_cons_succ])
                refine wpAnyH_take (i := 5) (oi := { dst := some 111, op := Op.call { callee := Callee.builtin Builtin.len, args := #[Operand.tmp 110], argTypes := #[22] }, type := 3, pos := "law.go:175", after := #[{ on := 4, ground := Ground.data }, { on := 3, ground := Ground.guard }], guard := some (3, false) }) (v := ?_) rfl (by kernel_rfl) (by kernel_rfl) (by kernel_rfl) (fun _ _ _ h => h) (Or.inl ⟨by rfl, ?hy5⟩) (by assumption) ?_
                case hy5 => (intro w_ hSw; (try dsimp only at hSw); go_simp; try (with_reducible rfl))
                (try simp only [Act.put, List.setIfInBounds_toArray, List.set_cons_zero, List.set_cons_succ])
                refine wpAnyH_take (i := 6) (oi := { dst := some 112, op := Op.move (Operand.tmp 10), type := 3, pos := "law.go:175", after := #[{ on := 3, ground := Ground.guard }], guard := some (3, false) }) (v := ?_) rfl (by kernel_rfl) (by kernel_rfl) (by kernel_rfl) (fun _ _ _ h => h) (Or.inl ⟨by rfl, ?hy6⟩) (by assumption) ?_
                case hy6 => (intro w_ hSw; (try dsimp only at hSw); go_simp; try (with_reducible rfl))
                (try simp only [Act.put, List.setIfInBounds_toArray, List.set_cons_zero, List.set_cons_succ])
                refine wpAnyH_take (i := 7) (oi := { dst := some 113, op := Op.binOp BinOp.gtr 3 (Operand.tmp 111) (Operand.tmp 112) 3, type := 4, pos := "law.go:175", after := #[{ on := 5, ground := Ground.data }, { on := 6, ground := Ground.data }, { on := 3, ground := Ground.guard }], guard := some (3, false) }) (v := ?_) rfl (by kernel_rfl) (by kernel_rfl) (by kernel_rfl) (fun _ _ _ h => h) (Or.inl ⟨by rfl, ?hy7⟩) (by assumption) ?_
                case hy7 => (intro w_ hSw; (try dsimp only at hSw); go_simp; try (with_reducible rfl))
                (try simp only [Act.put, List.setIfInBounds_toArray, List.set_cons_zero, List.set_cons_succ])
                refine wpAnyH_take (i := 8) (oi := { dst := some 114, op := Op.pick (Operand.tmp 109) (Operand.const (Value.bool true)) (Operand.tmp 113), type := 4, pos := "law.go:175", after := #[{ on := 3, ground := Ground.data }, { on := 7, ground := Ground.data }], guard := none }) (v := ?_) rfl (by kernel_rfl) (by kernel_rfl) (by kernel_rfl) (fun _ _ _ h => h) (Or.inl ⟨by rfl, ?hy8⟩) (by assumption) ?_
                case hy8 => (intro w_ hSw; (try dsimp only at hSw); go_simp; try (with_reducible rfl))
                (try simp only [Act.put, List.setIfInBounds_toArray, List.set_cons_zero, List.set_cons_succ])
                refine wpAnyH_take (i := 9) (oi := { dst := some 115, op := Op.move (Operand.tmp 114), type := 4, pos := "law.go:175", after := #[{ on := 8, ground := Ground.data }, { on := 3, ground := Ground.chain }], guard := none }) (v := ?_) rfl (by kernel_rfl) (by kernel_rfl) (by kernel_rfl) (fun _ _ _ h => h) (Or.inl ⟨by rfl, ?hy9⟩) (by assumption) ?_
                case hy9 => (intro w_ hSw; (try dsimp only at hSw); go_simp; try (with_reducible rfl))
                (try simp only [Act.put, List.setIfInBounds_toArray, List.set_cons_zero, List.set_cons_succ])
                refine wpAnyH_take (i := 10) (oi := { dst := some 116, op := Op.move (Operand.tmp 18), type := 22, pos := "law.go:175", after := #[{ on := 9, ground := Ground.guard }], guard := some (9, false) }) (v := ?_) rfl (by kernel_rfl) (by kernel_rfl) (by kernel_rfl) (fun _ _ _ h => h) (Or.inl ⟨by rfl, ?hy10⟩) (by assumption) ?_
                case hy10 => (intro w_ hSw; (try dsimp only at hSw); go_simp; try (with_reducible rfl))
                (try simp only [Act.put, List.setIfInBounds_toArray, List.set_cons_zero, List.set_cons_succ])
                refine wpAnyH_take (i := 11) (oi := { dst := some 117, op := Op.move (Operand.tmp 18), type := 22, pos := "law.go:175", after := #[{ on := 9, ground := Ground.guard }], guard := some (9, false) }) (v := ?_) rfl (by kernel_rfl) (by kernel_rfl) (by kernel_rfl) (fun _ _ _ h => h) (Or.inl ⟨by rfl, ?hy11⟩) (by assumption) ?_
                case hy11 => (intro w_ hSw; (try dsimp only at hSw); go_simp; try (with_reducible rfl))
                (try simp only [Act.put, List.setIfInBounds_toArray, List.set_cons_zero, List.set_cons_succ])
                refine wpAnyH_take (i := 12) (oi := { dst := some 118, op := Op.call { callee := Callee.builtin Builtin.len, args := #[Operand.tmp 117], argTypes := #[22] }, type := 3, pos := "law.go:175", after := #[{ on := 11, ground := Ground.data }, { on := 9, ground := Ground.guard }], guard := some (9, false) }) (v := ?_) rfl (by kernel_rfl) (by kernel_rfl) (by kernel_rfl) (fun _ _ _ h => h) (Or.inl ⟨by rfl, ?hy12⟩) (by assumption) ?_
                case hy12 => (intro w_ hSw; (try dsimp only at hSw); go_simp; try (with_reducible rfl))
                (try simp only [Act.put, List.setIfInBounds_toArray, List.set_cons_zero, List.set_cons_succ])
                refine wpAnyH_take (i := 13) (oi := { dst := some 119, op := Op.binOp BinOp.sub 3 (Operand.tmp 118) (Operand.const (Value.int IntKind.i64 1)) 3, type := 3, pos := "law.go:175", after := #[{ on := 12, ground := Ground.data }, { on := 9, ground := Ground.guard }], guard := some (9, false) }) (v := ?_) rfl (by kernel_rfl) (by kernel_rfl) (by kernel_rfl) (fun _ _ _ h => h) (Or.inl ⟨by rfl, ?hy13⟩) (by assumption) ?_
                case hy13 => (intro w_ hSw; (try dsimp only at hSw); go_simp; try (with_reducible rfl))
                (try simp only [Act.put, List.setIfInBounds_toArray, List.set_cons_zero, List.set_cons_succ])
                refine wpAnyH_take (i := 14) (oi := { dst := some 120, op := Op.indexAddr 22 (Operand.tmp 116) (Operand.tmp 119), type := 0, pos := "law.go:175", after := #[{ on := 10, ground := Ground.data }, { on := 13, ground := Ground.data }, { on := 9, ground := Ground.guard }], guard := some (9, false) }) (v := ?_) rfl (by kernel_rfl) (by kernel_rfl) (by kernel_rfl) (fun _ _ _ h => h) (Or.inl ⟨by rfl, ?hy14⟩) (by assumption) ?_
                case hy14 => (intro w_ hSw; (try dsimp only at hSw); go_simp; try (with_reducible rfl))
                (try simp only [Act.put, List.setIfInBounds_toArray, List.set_cons_zero, List.set_cons_succ])
                refine wpAnyH_take (i := 15) (oi := { dst := some 121, op := Op.load 3 (Operand.tmp 120), type := 3, pos := "law.go:175", after := #[{ on := 14, ground := Ground.data }, { on := 9, ground := Ground.guard }], guard := some (9, false) }) (v := ?_) rfl (by kernel_rfl) (by kernel_rfl) (by kernel_rfl) (fun _ _ _ h => h) (Or.inl ⟨by rfl, ?hy15⟩) (by assumption) ?_
                case hy15 => (intro w_ hSw; (try dsimp only at hSw); go_simp; try (with_reducible rfl))
                (try simp only [Act.put, List.setIfInBounds_toArray, List.set_cons_zero, List.set_cons_succ])
                refine wpAnyH_take (i := 16) (oi := { dst := some 122, op := Op.move (Operand.tmp 17), type := 3, pos := "law.go:175", after := #[{ on := 9, ground := Ground.guard }], guard := some (9, false) }) (v := ?_) rfl (by kernel_rfl) (by kernel_rfl) (by kernel_rfl) (fun _ _ _ h => h) (Or.inl ⟨by rfl, ?hy16⟩) (by assumption) ?_
                case hy16 => (intro w_ hSw; (try dsimp only at hSw); go_simp; try (with_reducible rfl))
                (try simp only [Act.put, List.setIfInBounds_toArray, List.set_cons_zero, List.set_cons_succ])
                refine wpAnyH_take (i := 17) (oi := { dst := some 123, op := Op.binOp BinOp.neq 3 (Operand.tmp 121) (Operand.tmp 122) 3, type := 4, pos := "law.go:175", after := #[{ on := 15, ground := Ground.data }, { on := 16, ground := Ground.data }, { on := 9, ground := Ground.guard }], guard := some (9, false) }) (v := ?_) rfl (by kernel_rfl) (by kernel_rfl) (by kernel_rfl) (fun _ _ _ h => h) (Or.inl ⟨by rfl, ?hy17⟩) (by assumption) ?_
                case hy17 => (intro w_ hSw; (try dsimp only at hSw); go_simp; try (with_reducible rfl))
                (try simp only [Act.put, List.setIfInBounds_toArray, List.set_cons_zero, List.set_cons_succ])
                refine wpAnyH_take (i := 18) (oi := { dst := some 124, op := Op.pick (Operand.tmp 115) (Operand.const (Value.bool true)) (Operand.tmp 123), type := 4, pos := "law.go:175", after := #[{ on := 9, ground := Ground.data }, { on := 17, ground := Ground.data }], guard := none }) (v := ?_) rfl (by kernel_rfl) (by kernel_rfl) (by kernel_rfl) (fun _ _ _ h => h) (Or.inl ⟨by rfl, ?hy18⟩) (by assumption) ?_
                case hy18 => (intro w_ hSw; (try dsimp only at hSw); go_simp; try (with_reducible rfl))
                (try simp only [Act.put, List.setIfInBounds_toArray, List.set_cons_zero, List.set_cons_succ])
                refine wpAnyH_take (i := 19) (oi := { dst := some 125, op := Op.move (Operand.tmp 124), type := 4, pos := "law.go:175", after := #[{ on := 18, ground := Ground.data }, { on := 9, ground := Ground.chain }], guard := none }) (v := ?_) rfl (by kernel_rfl) (by kernel_rfl) (by kernel_rfl) (fun _ _ _ h => h) (Or.inl ⟨by rfl, ?hy19⟩) (by assumption) ?_
                case hy19 => (intro w_ hSw; (try dsimp only at hSw); go_simp; try (with_reducible rfl))
                (try simp only [Act.put, List.setIfInBounds_toArray, List.set_cons_zero, List.set_cons_succ])
                refine wpAnyH_take (i := 20) (oi := { dst := some 126, op := Op.move (Operand.tmp 18), type := 22, pos := "law.go:175", after := #[{ on := 19, ground := Ground.guard }], guard := some (19, false) }) (v := ?_) rfl (by kernel_rfl) (by kernel_rfl) (by kernel_rfl) (fun _ _ _ h => h) (Or.inl ⟨by rfl, ?hy20⟩) (by assumption) ?_
                case hy20 => (intro w_ hSw; (try dsimp only at hSw); go_simp; try (with_reducible rfl))
                (try simp only [Act.put, List.setIfInBounds_toArray, List.set_cons_zero, List.set_cons_succ])
                refine wpAnyH_take (i := 21) (oi := { dst := some 127, op := Op.indexAddr 22 (Operand.tmp 126) (Operand.const (Value.int IntKind.i64 0)), type := 0, pos := "law.go:175", after := #[{ on := 20, ground := Ground.data }, { on := 19, ground := Ground.guard }], guard := some (19, false) }) (v := ?_) rfl (by kernel_rfl) (by kernel_rfl) (by kernel_rfl) (fun _ _ _ h => h) (Or.inl ⟨by rfl, ?hy21⟩) (by assumption) ?_
                case hy21 => (intro w_ hSw; (try dsimp only at hSw); go_simp; try (with_reducible rfl))
                (try simp only [Act.put, List.setIfInBounds_toArray, List.set_cons_zero, List.set_cons_succ])
                refine wpAnyH_take (i := 22) (oi := { dst := some 128, op := Op.load 3 (Operand.tmp 127), type := 3, pos := "law.go:175", after := #[{ on := 21, ground := Ground.data }, { on := 19, ground := Ground.guard }], guard := some (19, false) }) (v := ?_) rfl (by kernel_rfl) (by kernel_rfl) (by kernel_rfl) (fun _ _ _ h => h) (Or.inl ⟨by rfl, ?hy22⟩) (by assumption) ?_
                case hy22 => (intro w_ hSw; (try dsimp only at hSw); go_simp; try (with_reducible rfl))
                (try simp only [Act.put, List.setIfInBounds_toArray, List.set_cons_zero, List.set_cons_succ])
                refine wpAnyH_take (i := 23) (oi := { dst := some 129, op := Op.move (Operand.tmp 11), type := 45, pos := "law.go:175", after := #[{ on := 19, ground := Ground.guard }], guard := some (19, false) }) (v := ?_) rfl (by kernel_rfl) (by kernel_rfl) (by kernel_rfl) (fun _ _ _ h => h) (Or.inl ⟨by rfl, ?hy23⟩) (by assumption) ?_
                case hy23 => (intro w_ hSw; (try dsimp only at hSw); go_simp; try (with_reducible rfl))
                (try simp only [Act.put, List.setIfInBounds_toArray, List.set_cons_zero, List.set_cons_succ])
                refine wpAnyH_take (i := 24) (oi := { dst := some 130, op := Op.move (Operand.tmp 17), type := 3, pos := "law.go:175", after := #[{ on := 19, ground := Ground.guard }], guard := some (19, false) }) (v := ?_) rfl (by kernel_rfl) (by kernel_rfl) (by kernel_rfl) (fun _ _ _ h => h) (Or.inl ⟨by rfl, ?hy24⟩) (by assumption) ?_
                case hy24 => (intro w_ hSw; (try dsimp only at hSw); go_simp; try (with_reducible rfl))
                (try simp only [Act.put, List.setIfInBounds_toArray, List.set_cons_zero, List.set_cons_succ])
                refine wpAnyH_ready (rs := [25]) (by kernel_rfl) (by simp) ?_
                refine AllReadyH.cons (o := { dst := some 131, op := Op.call { callee := Callee.value (Operand.func 32), args := #[Operand.tmp 129, Operand.tmp 130], argTypes := #[45, 3] }, type := 3, pos := "law.go:175", after := #[{ on := 23, ground := Ground.data }, { on := 24, ground := Ground.data }, { on := 19, ground := Ground.chain }, { on := 19, ground := Ground.guard }], guard := some (19, false) }) rfl (fun K_ hK => ?_) AllReadyH.nil
                go_simp
                (go_at_call 32; (with_reducible refine (root_calls HT5.out HP.out).mono ?_); rintro e w6 ⟨rfl, hT, hK⟩; have HT6 := Aside0.mk hT; have HV6 := Aside0.mk (HV5.out.kt hK HFU.out.kt); have HR6 := Aside0.mk (HR5.out.kt hK HFG.out.kt); have hS6 : w6.cell? ⟨g, 0, none⟩ = some (.int .i64 r) ∧ w6.cell? ⟨g, m, none⟩ = some (.int .i64 (v : Int)) := ⟨HR6.out.get HCE.out.1, HR6.out.get HCE.out.2⟩; clear hT hK)
                first | refine hK.out _ _ ?kp25 (fun hHeld => ?_) | (go_wp2_with fail; refine hK.out _ _ ?kp25 (fun hHeld => ?_))
                case kp25 => exact (by assumption)
                clear hK K_
                (try simp only [Act.put, List.setIfInBounds_toArray, List.set_cons_zero, List.set_cons_succ])
                refine wpAnyH_take (i := 26) (oi := { dst := some 132, op := Op.binOp BinOp.neq 3 (Operand.tmp 128) (Operand.tmp 131) 3, type := 4, pos := "law.go:175", after := #[{ on := 22, ground := Ground.data }, { on := 25, ground := Ground.data }, { on := 19, ground := Ground.guard }], guard := some (19, false) }) (v := ?_) rfl (by kernel_rfl) (by kernel_rfl) (by kernel_rfl) (fun _ _ _ h => h) (Or.inl ⟨by rfl, ?hy26⟩) (by assumption) ?_
                case hy26 => (intro w_ hSw; (try dsimp only at hSw); go_simp; try (with_reducible rfl))
                (try simp only [Act.put, List.setIfInBounds_toArray, List.set_cons_zero, List.set_cons_succ])
                refine wpAnyH_take (i := 27) (oi := { dst := some 133, op := Op.pick (Operand.tmp 125) (Operand.const (Value.bool true)) (Operand.tmp 132), type := 4, pos := "law.go:175", after := #[{ on := 19, ground := Ground.data }, { on := 26, ground := Ground.data }], guard := none }) (v := ?_) rfl (by kernel_rfl) (by kernel_rfl) (by kernel_rfl) (fun _ _ _ h => h) (Or.inl ⟨by rfl, ?hy27⟩) (by assumption) ?_
                case hy27 => (intro w_ hSw; (try dsimp only at hSw); go_simp; try (with_reducible rfl))
                (try simp only [Act.put, List.setIfInBounds_toArray, List.set_cons_zero, List.set_cons_succ])
                refine wpAnyH_take (i := 28) (oi := { dst := some 134, op := Op.move (Operand.tmp 133), type := 4, pos := "law.go:175", after := #[{ on := 27, ground := Ground.data }, { on := 25, ground := Ground.chain }], guard := none }) (v := ?_) rfl (by kernel_rfl) (by kernel_rfl) (by kernel_rfl) (fun _ _ _ h => h) (Or.inl ⟨by rfl, ?hy28⟩) (by assumption) ?_
                case hy28 => (intro w_ hSw; (try dsimp only at hSw); go_simp; try (with_reducible rfl))
                (try simp only [Act.put, List.setIfInBounds_toArray, List.set_cons_zero, List.set_cons_succ])
                refine wpAnyH_take (i := 29) (oi := { dst := some 135, op := Op.move (Operand.tmp 11), type := 45, pos := "law.go:175", after := #[{ on := 28, ground := Ground.guard }], guard := some (28, false) }) (v := ?_) rfl (by kernel_rfl) (by kernel_rfl) (by kernel_rfl) (fun _ _ _ h => h) (Or.inl ⟨by rfl, ?hy29⟩) (by assumption) ?_
                case hy29 => (intro w_ hSw; (try dsimp only at hSw); go_simp; try (with_reducible rfl))
                (try simp only [Act.put, List.setIfInBounds_toArray, List.set_cons_zero, List.set_cons_succ])
                refine wpAnyH_take (i := 30) (oi := { dst := some 136, op := Op.move (Operand.tmp 18), type := 22, pos := "law.go:175", after := #[{ on := 28, ground := Ground.guard }], guard := some (28, false) }) (v := ?_) rfl (by kernel_rfl) (by kernel_rfl) (by kernel_rfl) (fun _ _ _ h => h) (Or.inl ⟨by rfl, ?hy30⟩) (by assumption) ?_
                case hy30 => (intro w_ hSw; (try dsimp only at hSw); go_simp; try (with_reducible rfl))
                (try simp only [Act.put, List.setIfInBounds_toArray, List.set_cons_zero, List.set_cons_succ])
                refine wpAnyH_take (i := 31) (oi := { dst := some 137, op := Op.indexAddr 22 (Operand.tmp 136) (Operand.const (Value.int IntKind.i64 0)), type := 0, pos := "law.go:175", after := #[{ on := 30, ground := Ground.data }, { on := 28, ground := Ground.guard }], guard := some (28, false) }) (v := ?_) rfl (by kernel_rfl) (by kernel_rfl) (by kernel_rfl) (fun _ _ _ h => h) (Or.inl ⟨by rfl, ?hy31⟩) (by assumption) ?_
                case hy31 => (intro w_ hSw; (try dsimp only at hSw); go_simp; try (with_reducible rfl))
                (try simp only [Act.put, List.setIfInBounds_toArray, List.set_cons_zero, List.set_cons_succ])
                refine wpAnyH_take (i := 32) (oi := { dst := some 138, op := Op.load 3 (Operand.tmp 137), type := 3, pos := "law.go:175", after := #[{ on := 31, ground := Ground.data }, { on := 28, ground := Ground.guard }], guard := some (28, false) }) (v := ?_) rfl (by kernel_rfl) (by kernel_rfl) (by kernel_rfl) (fun _ _ _ h => h) (Or.inl ⟨by rfl, ?hy32⟩) (by assumption) ?_
                case hy32 => (intro w_ hSw; (try dsimp only at hSw); go_simp; try (with_reducible rfl))
                (try simp only [Act.put, List.setIfInBounds_toArray, List.set_cons_zero, List.set_cons_succ])
                refine wpAnyH_ready (rs := [33]) (by kernel_rfl) (by simp) ?_
                refine AllReadyH.cons (o := { dst := some 139, op := Op.call { callee := Callee.value (Operand.func 33), args := #[Operand.tmp 135, Operand.tmp 138], argTypes := #[45, 3] }, type := 3, pos := "law.go:175", after := #[{ on := 29, ground := Ground.data }, { on := 32, ground := Ground.data }, { on := 28, ground := Ground.chain }, { on := 28, ground := Ground.guard }], guard := some (28, false) }) rfl (fun K_ hK => ?_) AllReadyH.nil
                go_simp
                (go_at_call 33; (with_reducible refine (above_calls HT6.out HRW.out).mono ?_); rw [HUR.out]; rintro e w7 ⟨rfl, hT, hK⟩; have HT7 := Aside0.mk hT; have HV7 := Aside0.mk (HV6.out.kt hK HFU.out.kt); have HR7 := Aside0.mk (HR6.out.kt hK HFG.out.kt); have hS7 : w7.cell? ⟨g, 0, none⟩ = some (.int .i64 r) ∧ w7.cell? ⟨g, m, none⟩ = some (.int .i64 (v : Int)) := ⟨HR7.out.get HCE.out.1, HR7.out.get HCE.out.2⟩; clear hT hK)
                first | refine hK.out _ _ ?kp33 (fun hHeld => ?_) | (go_wp2_with fail; refine hK.out _ _ ?kp33 (fun hHeld => ?_))
                case kp33 => exact (by assumption)
                clear hK K_
                (try simp only [Act.put, List.setIfInBounds_toArray, List.set_cons_zero, List.set_cons_succ])
                refine wpAnyH_take (i := 34) (oi := { dst := some 140, op := Op.binOp BinOp.neq 3 (Operand.tmp 139) (Operand.const (Value.int IntKind.i64 (-1))) 3, type := 4, pos := "law.go:175", after := #[{ on := 33, ground := Ground.data }, { on := 28, ground := Ground.guard }], guard := some (28, false) }) (v := ?_) rfl (by kernel_rfl) (by kernel_rfl) (by kernel_rfl) (fun _ _ _ h => h) (Or.inl ⟨by rfl, ?hy34⟩) (by assumption) ?_
                case hy34 => (intro w_ hSw; (try dsimp only at hSw); go_simp; try (with_reducible rfl))
                (try simp only [Act.put, List.setIfInBounds_toArray, List.set_cons_zero, List.set_cons_succ])
                refine wpAnyH_take (i := 35) (oi := { dst := some 141, op := Op.pick (Operand.tmp 134) (Operand.const (Value.bool true)) (Operand.tmp 140), type := 4, pos := "law.go:175", after := #[{ on := 28, ground := Ground.data }, { on := 34, ground := Ground.data }], guard := none }) (v := ?_) rfl (by kernel_rfl) (by kernel_rfl) (by kernel_rfl) (fun _ _ _ h => h) (Or.inl ⟨by rfl, ?hy35⟩) (by assumption) ?_
                case hy35 => (intro w_ hSw; (try dsimp only at hSw); go_simp; try (with_reducible rfl))
                (try simp only [Act.put, List.setIfInBounds_toArray, List.set_cons_zero, List.set_cons_succ])
                refine wpAnyH_done (by kernel_rfl) ?_ _
                clear hwl hwl2
                go_wp2
                clear hS5 hS6 hS7 HT5 HT6 HV5 HV6 HR5 HR6 hLn hLn2 hL0
                go_loopg [19] (L + 1) (fun kq v19 wq => ∃ (i : Nat), v19 = .int .i64 (i : Int) ∧ Aside0 (i + kq = L + 2 ∧ 0 < kq ∧ 1 ≤ i) ∧ Aside0 (Tm D w wq up (worth (List.replicate n 0))) ∧ Aside0 (Va wq gu n 3 (backArr up (v + 1))) ∧ Aside0 (RowC wq g (a ++ [r]).reverse))
                case atStart => exact ⟨1, rfl, ⟨by omega⟩, HT7, HV7, HR7⟩
                case round =>
                  clear HT7 HV7 HR7
                  obtain ⟨i, rfl, HK3, HT, HV, HRR⟩ := hrel
                  by_cases ci : i < L
                  · as_aux_lemma =>
                      have hiL : (i : Int) < (L : Int) := Int.ofNat_lt.2 ci
                      have hlt2 : ((i : Int) < (L : Int)) = True := eq_true hiL
                      obtain ⟨j, hj⟩ : ∃ j : Nat, i = j + 1 := ⟨i - 1, by have h_ := HK3.out; omega⟩
                      have hjm : j < a.length := by have h_ := HLM.out; have h2_ := HM.out; omega
                      obtain ⟨b, y1, z, hy1, hz1, huy, hwy⟩ := down_step HP.out hjm
                      rw [← hj] at hy1
                      have HY1 := Aside0.mk hy1
                      have HZ1 := Aside0.mk hz1
                      have HUY := Aside0.mk huy
                      have HWY1 := Aside0.mk hwy
                      have hi0 : (0 : Int) ≤ (i : Int) := Int.natCast_nonneg i
                      have hj0 : (0 : Int) ≤ (j : Int) := Int.natCast_nonneg j
                      have hjL : (j : Int) < (L : Int) := by omega
                      have hwj : wrap64 ((i : Int) - 1) = (j : Int) := by have h_ := HLM.out; have h2_ := HN.out; rw [w64s (by omega) (by omega)]; omega
                      have hwj2 : IntKind.i64.wrap ((i : Int) - 1) = (j : Int) := by have h_ := HLM.out; have h2_ := HN.out; clear hwj; rw [i64s (by omega) (by omega)]; omega
                      have HWI : Aside0 (wrap64 ((i : Int) + 1) = (i : Int) + 1) := ⟨by have h_ := HLM.out; have h2_ := HN.out; clear hwj hwj2; exact w64s (by omega) (by omega)⟩
                      have HI3 : Aside0 (i + 1 + (L + 1 - i) = L + 2 ∧ 0 < L + 1 - i ∧ L + 1 - i < gk) := ⟨by have h_ := HK3.out; clear hwj hwj2; omega⟩
                      clear hy1 hz1 huy hwy hj hjm
                      go_wp2
                      have HT5 := Aside0.mk (HT.out.below (below_drew (Below.refl _ _)))
                      have HV5 := Aside0.mk (HV.out.below (below_drew (Below.refl _ _)))
                      have HR5 := Aside0.mk (HRR.out.below (below_drew (Below.refl _ _)))
                      have hS5 : wr.drew.cell? ⟨g, i, none⟩ = some (.int .i64 y1) ∧ wr.drew.cell? ⟨g, j, none⟩ = some (.int .i64 z) ∧ wr.drew.cell? ⟨g, 0, none⟩ = some (.int .i64 r) := ⟨HR5.out.get HY1.out, HR5.out.get HZ1.out, HR5.out.get HCE.out.1⟩
                      refine wp_region_held_drew (S := (fun W_ => W_.cell? ⟨g, i, none⟩ = some (.int .i64 y1) ∧ W_.cell? ⟨g, j, none⟩ = some (.int .i64 z) ∧ W_.cell? ⟨g, 0, none⟩ = some (.int .i64 r))) (by kernel_rfl) (show _ from hS5) (fun hHeld => ?_)
                      refine wpAnyH_take (i := 0) (oi := { dst := some 148, op := Op.move (Operand.tmp 11), type := 45, pos := "law.go:179", after := #[], guard := none }) (v := ?_) rfl (by kernel_rfl) (by kernel_rfl) (by kernel_rfl) (fun _ _ _ h => h) (Or.inl ⟨by rfl, ?hy0⟩) (by assumption) ?_
                      case hy0 => (intro w_ hSw; (try dsimp only at hSw); go_simp; try (with_reducible rfl))
                      (try simp only [Act.put, List.setIfInBounds_toArray, List.set_cons_zero, List.set_cons_succ])
                      refine wpAnyH_take (i := 1) (oi := { dst := some 149, op := Op.move (Operand.tmp 18), type := 22, pos := "law.go:179", after := #[], guard := none }) (v := ?_) rfl (by kernel_rfl) (by kernel_rfl) (by kernel_rfl) (fun _ _ _ h => h) (Or.inl ⟨by rfl, ?hy1⟩) (by assumption) ?_
                      case hy1 => (intro w_ hSw; (try dsimp only at hSw); go_simp; try (with_reducible rfl))
                      (try simp only [Act.put, List.setIfInBounds_toArray, List.set_cons_zero, List.set_cons_succ])
                      refine wpAnyH_take (i := 2) (oi := { dst := some 150, op := Op.move (Operand.tmp 19), type := 3, pos := "law.go:179", after := #[], guard := none }) (v := ?_) rfl (by kernel_rfl) (by kernel_rfl) (by kernel_rfl) (fun _ _ _ h => h) (Or.inl ⟨by rfl, ?hy2⟩) (by assumption) ?_
                      case hy2 => (intro w_ hSw; (try dsimp only at hSw); go_simp; try (with_reducible rfl))
                      (try simp only [Act.put, List.setIfInBounds_toArray, List.set_cons_zero, List.set_cons_succ])
                      refine wpAnyH_take (i := 3) (oi := { dst := some 151, op := Op.indexAddr 22 (Operand.tmp 149) (Operand.tmp 150), type := 0, pos := "law.go:179", after := #[{ on := 1, ground := Ground.data }, { on := 2, ground := Ground.data }], guard := none }) (v := ?_) rfl (by kernel_rfl) (by kernel_rfl) (by kernel_rfl) (fun _ _ _ h => h) (Or.inl ⟨by rfl, ?hy3⟩) (by assumption) ?_
                      case hy3 => (intro w_ hSw; (try dsimp only at hSw); go_simp; try (with_reducible rfl))
                      (try simp only [Act.put, List.setIfInBounds_toArray, List.set_cons_zero, List.set_cons_succ])
                      refine wpAnyH_take (i := 4) (oi := { dst := some 152, op := Op.load 3 (Operand.tmp 151), type := 3, pos := "law.go:179", after := #[{ on := 3, ground := Ground.data }], guard := none }) (v := ?_) rfl (by kernel_rfl) (by kernel_rfl) (by kernel_rfl) (fun _ _ _ h => h) (Or.inl ⟨by rfl, ?hy4⟩) (by assumption) ?_
                      case hy4 => (intro w_ hSw; (try dsimp only at hSw); go_simp; try (with_reducible rfl))
                      (try simp only [Act.put, List.setIfInBounds_toArray, List.set_cons_zero, List.set_cons_succ])
                      refine wpAnyH_take (i := 6) (oi := { dst := some 154, op := Op.move (Operand.tmp 18), type := 22, pos := "law.go:179", after := #[], guard := none }) (v := ?_) rfl (by kernel_rfl) (by kernel_rfl) (by kernel_rfl) (fun _ _ _ h => h) (Or.inl ⟨by rfl, ?hy6⟩) (by assumption) ?_
                      case hy6 => (intro w_ hSw; (try dsimp only at hSw); go_simp; try (with_reducible rfl))
                      (try simp only [Act.put, List.setIfInBounds_toArray, List.set_cons_zero, List.set_cons_succ])
                      refine wpAnyH_take (i := 7) (oi := { dst := some 155, op := Op.move (Operand.tmp 19), type := 3, pos := "law.go:179", after := #[], guard := none }) (v := ?_) rfl (by kernel_rfl) (by kernel_rfl) (by kernel_rfl) (fun _ _ _ h => h) (Or.inl ⟨by rfl, ?hy7⟩) (by assumption) ?_
                      case hy7 => (intro w_ hSw; (try dsimp only at hSw); go_simp; try (with_reducible rfl))
                      (try simp only [Act.put, List.setIfInBounds_toArray, List.set_cons_zero, List.set_cons_succ])
                      refine wpAnyH_take (i := 8) (oi := { dst := some 156, op := Op.binOp BinOp.sub 3 (Operand.tmp 155) (Operand.const (Value.int IntKind.i64 1)) 3, type := 3, pos := "law.go:179", after := #[{ on := 7, ground := Ground.data }], guard := none }) (v := ?_) rfl (by kernel_rfl) (by kernel_rfl) (by kernel_rfl) (fun _ _ _ h => h) (Or.inl ⟨by rfl, ?hy8⟩) (by assumption) ?_
                      case hy8 => (intro w_ hSw; (try dsimp only at hSw); go_simp; try (with_reducible rfl))
                      (try simp only [Act.put, List.setIfInBounds_toArray, List.set_cons_zero, List.set_cons_succ])
                      refine wpAnyH_take (i := 9) (oi := { dst := some 157, op := Op.indexAddr 22 (Operand.tmp 154) (Operand.tmp 156), type := 0, pos := "law.go:179", after := #[{ on := 6, ground := Ground.data }, { on := 8, ground := Ground.data }], guard := none }) (v := ?_) rfl (by kernel_rfl) (by kernel_rfl) (by kernel_rfl) (fun _ _ _ h => h) (Or.inl ⟨by rfl, ?hy9⟩) (by assumption) ?_
                      case hy9 => (intro w_ hSw; (try dsimp only at hSw); go_simp; try (with_reducible rfl))
                      (try simp only [Act.put, List.setIfInBounds_toArray, List.set_cons_zero, List.set_cons_succ])
                      refine wpAnyH_take (i := 10) (oi := { dst := some 158, op := Op.load 3 (Operand.tmp 157), type := 3, pos := "law.go:179", after := #[{ on := 9, ground := Ground.data }], guard := none }) (v := ?_) rfl (by kernel_rfl) (by kernel_rfl) (by kernel_rfl) (fun _ _ _ h => h) (Or.inl ⟨by rfl, ?hy10⟩) (by assumption) ?_
                      case hy10 => (intro w_ hSw; (try dsimp only at hSw); go_simp; try (with_reducible rfl))
                      (try simp only [Act.put, List.setIfInBounds_toArray, List.set_cons_zero, List.set_cons_succ])
                      refine wpAnyH_ready (rs := [5]) (by kernel_rfl) (by simp) ?_
                      refine AllReadyH.cons (o := { dst := some 153, op := Op.call { callee := Callee.value (Operand.func 33), args := #[Operand.tmp 148, Operand.tmp 152], argTypes := #[45, 3] }, type := 3, pos := "law.go:179", after := #[{ on := 0, ground := Ground.data }, { on := 4, ground := Ground.data }], guard := none }) rfl (fun K_ hK => ?_) AllReadyH.nil
                      go_simp
                      (go_at_call 33; (with_reducible refine (above_calls HT5.out HWY1.out).mono ?_); rw [HUY.out]; rintro e w6 ⟨rfl, hT, hK⟩; have HT6 := Aside0.mk hT; have HV6 := Aside0.mk (HV5.out.kt hK HFU.out.kt); have HR6 := Aside0.mk (HR5.out.kt hK HFG.out.kt); have hS6 : w6.cell? ⟨g, i, none⟩ = some (.int .i64 y1) ∧ w6.cell? ⟨g, j, none⟩ = some (.int .i64 z) ∧ w6.cell? ⟨g, 0, none⟩ = some (.int .i64 r) := ⟨HR6.out.get HY1.out, HR6.out.get HZ1.out, HR6.out.get HCE.out.1⟩; clear hT hK)
                      first | refine hK.out _ _ ?kp5 (fun hHeld => ?_) | (go_wp2_with fail; refine hK.out _ _ ?kp5 (fun hHeld => ?_))
                      case kp5 => exact (by assumption)
                      clear hK K_
                      (try simp only [Act.put, List.setIfInBounds_toArray, List.set_cons_zero, List.set_cons_succ])
                      refine wpAnyH_take (i := 11) (oi := { dst := some 159, op := Op.binOp BinOp.neq 3 (Operand.tmp 153) (Operand.tmp 158) 3, type := 4, pos := "law.go:179", after := #[{ on := 5, ground := Ground.data }, { on := 10, ground := Ground.data }], guard := none }) (v := ?_) rfl (by kernel_rfl) (by kernel_rfl) (by kernel_rfl) (fun _ _ _ h => h) (Or.inl ⟨by rfl, ?hy11⟩) (by assumption) ?_
                      case hy11 => (intro w_ hSw; (try dsimp only at hSw); go_simp; try (with_reducible rfl))
                      (try simp only [Act.put, List.setIfInBounds_toArray, List.set_cons_zero, List.set_cons_succ])
                      refine wpAnyH_take (i := 12) (oi := { dst := some 160, op := Op.move (Operand.tmp 159), type := 4, pos := "law.go:179", after := #[{ on := 11, ground := Ground.data }, { on := 5, ground := Ground.chain }], guard := none }) (v := ?_) rfl (by kernel_rfl) (by kernel_rfl) (by kernel_rfl) (fun _ _ _ h => h) (Or.inl ⟨by rfl, ?hy12⟩) (by assumption) ?_
                      case hy12 => (intro w_ hSw; (try dsimp only at hSw); go_simp; try (with_reducible rfl))
                      (try simp only [Act.put, List.setIfInBounds_toArray, List.set_cons_zero, List.set_cons_succ])
                      refine wpAnyH_take (i := 13) (oi := { dst := some 161, op := Op.move (Operand.tmp 11), type := 45, pos := "law.go:179", after := #[{ on := 12, ground := Ground.guard }], guard := some (12, false) }) (v := ?_) rfl (by kernel_rfl) (by kernel_rfl) (by kernel_rfl) (fun _ _ _ h => h) (Or.inl ⟨by rfl, ?hy13⟩) (by assumption) ?_
                      case hy13 => (intro w_ hSw; (try dsimp only at hSw); go_simp; try (with_reducible rfl))
                      (try simp only [Act.put, List.setIfInBounds_toArray, List.set_cons_zero, List.set_cons_succ])
                      refine wpAnyH_take (i := 14) (oi := { dst := some 162, op := Op.move (Operand.tmp 18), type := 22, pos := "law.go:179", after := #[{ on := 12, ground := Ground.guard }], guard := some (12, false) }) (v := ?_) rfl (by kernel_rfl) (by kernel_rfl) (by kernel_rfl) (fun _ _ _ h => h) (Or.inl ⟨by rfl, ?hy14⟩) (by assumption) ?_
                      case hy14 => (intro w_ hSw; (try dsimp only at hSw); go_simp; try (with_reducible rfl))
                      (try simp only [Act.put, List.setIfInBounds_toArray, List.set_cons_zero, List.set_cons_succ])
                      refine wpAnyH_take (i := 15) (oi := { dst := some 163, op := Op.move (Operand.tmp 19), type := 3, pos := "law.go:179", after := #[{ on := 12, ground := Ground.guard }], guard := some (12, false) }) (v := ?_) rfl (by kernel_rfl) (by kernel_rfl) (by kernel_rfl) (fun _ _ _ h => h) (Or.inl ⟨by rfl, ?hy15⟩) (by assumption) ?_
                      case hy15 => (intro w_ hSw; (try dsimp only at hSw); go_simp; try (with_reducible rfl))
                      (try simp only [Act.put, List.setIfInBounds_toArray, List.set_cons_zero, List.set_cons_succ])
                      refine wpAnyH_take (i := 16) (oi := { dst := some 164, op := Op.indexAddr 22 (Operand.tmp 162) (Operand.tmp 163), type := 0, pos := "law.go:179", after := #[{ on := 14, ground := Ground.data }, { on := 15, ground := Ground.data }, { on := 12, ground := Ground.guard }], guard := some (12, false) }) (v := ?_) rfl (by kernel_rfl) (by kernel_rfl) (by kernel_rfl) (fun _ _ _ h => h) (Or.inl ⟨by rfl, ?hy16⟩) (by assumption) ?_
                      case hy16 => (intro w_ hSw; (try dsimp only at hSw); go_simp; try (with_reducible rfl))
                      (try simp only [Act.put, List.setIfInBounds_toArray, List.set_cons_zero, List.set_cons_succ])
                      refine wpAnyH_take (i := 17) (oi := { dst := some 165, op := Op.load 3 (Operand.tmp 164), type := 3, pos := "law.go:179", after := #[{ on := 16, ground := Ground.data }, { on := 12, ground := Ground.guard }], guard := some (12, false) }) (v := ?_) rfl (by kernel_rfl) (by kernel_rfl) (by kernel_rfl) (fun _ _ _ h => h) (Or.inl ⟨by rfl, ?hy17⟩) (by assumption) ?_
                      case hy17 => (intro w_ hSw; (try dsimp only at hSw); go_simp; try (with_reducible rfl))
                      (try simp only [Act.put, List.setIfInBounds_toArray, List.set_cons_zero, List.set_cons_succ])
                      refine wpAnyH_take (i := 19) (oi := { dst := some 167, op := Op.move (Operand.tmp 18), type := 22, pos := "law.go:179", after := #[{ on := 12, ground := Ground.guard }], guard := some (12, false) }) (v := ?_) rfl (by kernel_rfl) (by kernel_rfl) (by kernel_rfl) (fun _ _ _ h => h) (Or.inl ⟨by rfl, ?hy19⟩) (by assumption) ?_
                      case hy19 => (intro w_ hSw; (try dsimp only at hSw); go_simp; try (with_reducible rfl))
                      (try simp only [Act.put, List.setIfInBounds_toArray, List.set_cons_zero, List.set_cons_succ])
                      refine wpAnyH_take (i := 20) (oi := { dst := some 168, op := Op.indexAddr 22 (Operand.tmp 167) (Operand.const (Value.int IntKind.i64 0)), type := 0, pos := "law.go:179", after := #[{ on := 19, ground := Ground.data }, { on := 12, ground := Ground.guard }], guard := some (12, false) }) (v := ?_) rfl (by kernel_rfl) (by kernel_rfl) (by kernel_rfl) (fun _ _ _ h => h) (Or.inl ⟨by rfl, ?hy20⟩) (by assumption) ?_
                      case hy20 => (intro w_ hSw; (try dsimp only at hSw); go_simp; try (with_reducible rfl))
                      (try simp only [Act.put, List.setIfInBounds_toArray, List.set_cons_zero, List.set_cons_succ])
                      refine wpAnyH_take (i := 21) (oi := { dst := some 169, op := Op.load 3 (Operand.tmp 168), type := 3, pos := "law.go:179", after := #[{ on := 20, ground := Ground.data }, { on := 12, ground := Ground.guard }], guard := some (12, false) }) (v := ?_) rfl (by kernel_rfl) (by kernel_rfl) (by kernel_rfl) (fun _ _ _ h => h) (Or.inl ⟨by rfl, ?hy21⟩) (by assumption) ?_
                      case hy21 => (intro w_ hSw; (try dsimp only at hSw); go_simp; try (with_reducible rfl))
                      (try simp only [Act.put, List.setIfInBounds_toArray, List.set_cons_zero, List.set_cons_succ])
                      refine wpAnyH_ready (rs := [18]) (by kernel_rfl) (by simp) ?_
                      refine AllReadyH.cons (o := { dst := some 166, op := Op.call { callee := Callee.value (Operand.func 32), args := #[Operand.tmp 161, Operand.tmp 165], argTypes := #[45, 3] }, type := 3, pos := "law.go:179", after := #[{ on := 13, ground := Ground.data }, { on := 17, ground := Ground.data }, { on := 12, ground := Ground.chain }, { on := 12, ground := Ground.guard }], guard := some (12, false) }) rfl (fun K_ hK => ?_) AllReadyH.nil
                      go_simp
                      (go_at_call 32; (with_reducible refine (root_calls HT6.out HWY1.out).mono ?_); rintro e w7 ⟨rfl, hT, hK⟩; have HT7 := Aside0.mk hT; have HV7 := Aside0.mk (HV6.out.kt hK HFU.out.kt); have HR7 := Aside0.mk (HR6.out.kt hK HFG.out.kt); have hS7 : w7.cell? ⟨g, i, none⟩ = some (.int .i64 y1) ∧ w7.cell? ⟨g, j, none⟩ = some (.int .i64 z) ∧ w7.cell? ⟨g, 0, none⟩ = some (.int .i64 r) := ⟨HR7.out.get HY1.out, HR7.out.get HZ1.out, HR7.out.get HCE.out.1⟩; clear hT hK)
                      first | refine hK.out _ _ ?kp18 (fun hHeld => ?_) | (go_wp2_with fail; refine hK.out _ _ ?kp18 (fun hHeld => ?_))
                      case kp18 => exact (by assumption)
                      clear hK K_
                      (try simp only [Act.put, List.setIfInBounds_toArray, List.set_cons_zero, List.set_cons_succ])
                      refine wpAnyH_take (i := 22) (oi := { dst := some 170, op := Op.binOp BinOp.neq 3 (Operand.tmp 166) (Operand.tmp 169) 3, type := 4, pos := "law.go:179", after := #[{ on := 18, ground := Ground.data }, { on := 21, ground := Ground.data }, { on := 12, ground := Ground.guard }], guard := some (12, false) }) (v := ?_) rfl (by kernel_rfl) (by kernel_rfl) (by kernel_rfl) (fun _ _ _ h => h) (Or.inl ⟨by rfl, ?hy22⟩) (by assumption) ?_
                      case hy22 => (intro w_ hSw; (try dsimp only at hSw); go_simp; try (with_reducible rfl))
                      (try simp only [Act.put, List.setIfInBounds_toArray, List.set_cons_zero, List.set_cons_succ])
                      refine wpAnyH_take (i := 23) (oi := { dst := some 171, op := Op.pick (Operand.tmp 160) (Operand.const (Value.bool true)) (Operand.tmp 170), type := 4, pos := "law.go:179", after := #[{ on := 12, ground := Ground.data }, { on := 22, ground := Ground.data }], guard := none }) (v := ?_) rfl (by kernel_rfl) (by kernel_rfl) (by kernel_rfl) (fun _ _ _ h => h) (Or.inl ⟨by rfl, ?hy23⟩) (by assumption) ?_
                      case hy23 => (intro w_ hSw; (try dsimp only at hSw); go_simp; try (with_reducible rfl))
                      (try simp only [Act.put, List.setIfInBounds_toArray, List.set_cons_zero, List.set_cons_succ])
                      refine wpAnyH_done (by kernel_rfl) ?_ _
                      clear hwj hwj2
                      go_wp2
                      go_roundg (L + 1 - i)
                      case measure => exact HI3.out.2.2
                      case rel => exact ⟨i + 1, by first | rfl | exact congrArg (Value.int .i64) HWI.out, ⟨⟨HI3.out.1, HI3.out.2.1, Nat.succ_le_succ (Nat.zero_le i)⟩⟩, HT7, HV7, HR7⟩
                  · as_aux_lemma =>
                      have hlt2 : ((i : Int) < (L : Int)) = False := eq_false (fun h => ci (Int.ofNat_lt.1 h))
                      go_wp2
                      go_roundg (n - v)
                      case measure => have h_ := HK2.out; omega
                      case rel => exact ⟨v + 1, by first | rfl | exact congrArg (Value.int .i64) HWV.out, ⟨by have h_ := HK2.out; omega⟩, HT, HV⟩
            · as_aux_lemma =>
                have hlt : ((v : Int) < (n : Int)) = False := eq_false (fun h => cv (Int.ofNat_lt.1 h))
                have hvn : v = n := by have h_ := HK2.out; omega
                subst hvn
                obtain ⟨P, hP⟩ := HT.out.ok (x : Int) HPA.out.2.1 (by rw [HD.out]; exact HPA.out.2.2)
                obtain ⟨Q, hQ⟩ := HT.out.ok (y : Int) HPB.out.2.1 (by rw [HD.out]; exact HPB.out.2.2)
                obtain ⟨a, r, rfl⟩ := hP.last_
                obtain ⟨b, s, rfl⟩ := hQ.last_
                obtain ⟨d, hd1, hd2⟩ := turn_way hQ
                have HP := Aside0.mk hP
                have HQ := Aside0.mk hQ
                have HTW := Aside0.mk hd2
                have HTT : Aside0 (turnUp (turnUp up (b ++ [s])) (d ++ [(y : Int)]) = up) := ⟨by rw [← hd1]; exact turn_turn hQ.path hQ.nodup⟩
                have HX : Aside0 ((0 : Int) ≤ (x : Int) ∧ (x : Int) < (D.N : Int) ∧ (0 : Int) ≤ (y : Int) ∧ (y : Int) < (D.N : Int)) := ⟨by rw [HD.out]; exact ⟨HPA.out.2.1, HPA.out.2.2, HPB.out.2.1, HPB.out.2.2⟩⟩
                have HXN : Aside0 (x < v) := ⟨Int.ofNat_lt.1 HPA.out.2.2⟩
                clear hP hQ hd1 hd2 HK2
                by_cases hrx : r = (x : Int)
                · subst hrx
                  have HUX := Aside0.mk (way_self HP.out)
                  have HTX := Aside0.mk (way_top HP.out)
                  by_cases hsx : s = (x : Int)
                  · subst hsx
                    as_aux_lemma =>
                      have hx0 : (0 : Int) ≤ (x : Int) := HX.out.1
                      have hxv : (x : Int) < (v : Int) := HPA.out.2.2
                      have hm1 : ((-1 : Int) == (y : Int)) = false := beq_eq_false_iff_ne.mpr (by omega)
                      go_wp2_with (first
                        | (go_at_call 29; (with_reducible refine (pick10_calls _ HXA.out.1 HXA.out.2 hn0).mono ?_); rw [HPA.out.1]; rintro e w' ⟨rfl, hw'⟩; have hw' := hw'.symm; subst hw')
                        | (go_at_call 29; (with_reducible refine (pick10_calls _ HXB.out.1 HXB.out.2 hn0).mono ?_); rw [HPB.out.1]; rintro e w' ⟨rfl, hw'⟩; have hw' := hw'.symm; subst hw')
                        | (go_at_call 32; (with_reducible refine (root_calls HT.out HP.out).mono ?_); rintro e wf1 ⟨rfl, hT, hK⟩; have HTf1 := Aside0.mk hT; have HVf1 := Aside0.mk (HV.out.kt hK HFU.out.kt); clear hT hK)
                        | (go_at_call 30; (with_reducible refine (link_same HTf1.out HUX.out HX.out.1 HX.out.2.1 HQ.out).mono ?_); rintro e wf2 ⟨rfl, hT, hK⟩; have HTf2 := Aside0.mk hT; have HVf2 := Aside0.mk (HVf1.out.kt hK HFU.out.kt); clear hT hK)
                        | (go_at_call 32; (with_reducible refine (root_calls HTf2.out HQ.out).mono ?_); rintro e wf3 ⟨rfl, hT, hK⟩; have HTf3 := Aside0.mk hT; have HVf3 := Aside0.mk (HVf2.out.kt hK HFU.out.kt); clear hT hK)
                        | (go_at_call 32; (with_reducible refine (root_calls HTf3.out HP.out).mono ?_); rintro e wf4 ⟨rfl, hT, hK⟩; have HTf4 := Aside0.mk hT; have HVf4 := Aside0.mk (HVf3.out.kt hK HFU.out.kt); have hcx := (HVf4.out.at_ HXN.out (v := .int .i64 (-1)) (by unfold backArr; rw [if_pos HXN.out, HUX.out])).1; clear hT hK)
                        | (go_at_call 33; (with_reducible refine (above_calls HTf4.out HTX.out).mono ?_); rw [HUX.out]; rintro e wz ⟨rfl, hT, hK⟩; have HTz := Aside0.mk hT; have HVz := Aside0.mk (HVf4.out.kt hK HFU.out.kt); clear hT hK)
                        | (go_at_call 32; (with_reducible refine (root_calls HTz.out HQ.out).mono ?_); rintro e we1 ⟨rfl, hT, hK⟩; have HTe1 := Aside0.mk hT; have HVe1 := Aside0.mk (HVz.out.kt hK HFU.out.kt); clear hT hK)
                        | (go_at_call 35; (with_reducible refine (evert_calls HTe1.out HQ.out).mono ?_); rintro e we2 ⟨rfl, hT, hK⟩; have HTe2 := Aside0.mk hT; have HVe2 := Aside0.mk (HVe1.out.kt hK HFU.out.kt); clear hT hK)
                        | (go_at_call 32; (with_reducible refine (root_calls HTe2.out HTW.out).mono ?_); rintro e we3 ⟨rfl, hT, hK⟩; have HTe3 := Aside0.mk hT; have HVe3 := Aside0.mk (HVe2.out.kt hK HFU.out.kt); clear hT hK)
                        | (go_at_call 35; (with_reducible refine (evert_calls HTe3.out HTW.out).mono ?_); rw [HTT.out]; rintro e we4 ⟨rfl, hT, hK⟩; have HTe4 := Aside0.mk hT; have HVe4 := Aside0.mk (HVe3.out.kt hK HFU.out.kt); clear hT hK))
                      clear HT HV HTz HVz HTe1 HTe2 HTe3 HVe1 HVe2 HVe3
                      go_loopg [24] (v + 1) (fun kq v24 wq => ∃ (j : Nat), v24 = .int .i64 (j : Int) ∧ Aside0 (j + kq = v + 1 ∧ 0 < kq) ∧ Aside0 (Tm D w wq up (worth (List.replicate v 0))) ∧ Aside0 (Va wq gu v 3 (backArr up v)))
                      case atStart => exact ⟨0, rfl, ⟨by omega⟩, HTe4, HVe4⟩
                      case round =>
                        clear HTe4 HVe4
                        obtain ⟨j, rfl, HK4, HT, HV⟩ := hrel
                        by_cases cj : j < v
                        · as_aux_lemma =>
                            have hjv : (j : Int) < (v : Int) := Int.ofNat_lt.2 cj
                            have hlt4 : ((j : Int) < (v : Int)) = True := eq_true hjv
                            have hj0 : (0 : Int) ≤ (j : Int) := Int.natCast_nonneg j
                            obtain ⟨P, hP⟩ := HT.out.ok (j : Int) hj0 (by rw [HD.out]; exact hjv)
                            have HP4 := Aside0.mk hP
                            have HWJ : Aside0 (wrap64 ((j : Int) + 1) = (j : Int) + 1) := ⟨by have h2_ := HN.out; exact w64s (by omega) (by omega)⟩
                            have HJ4 : Aside0 (j + 1 + (v - j) = v + 1 ∧ 0 < v - j ∧ v - j < gk) := ⟨by have h_ := HK4.out; omega⟩
                            clear hP
                            go_wp2
                            have HT5 := Aside0.mk (HT.out.below (below_drew (Below.refl _ _)))
                            have HV5 := Aside0.mk (HV.out.below (below_drew (Below.refl _ _)))
                            have hS5 : wr.drew.cell? ⟨gu, j, none⟩ = some (.int .i64 (up (j : Int))) := (HV5.out.at_ cj (back_at cj)).1
                            refine wp_region_held_drew (S := (fun W_ => W_.cell? ⟨gu, j, none⟩ = some (.int .i64 (up (j : Int))))) (by kernel_rfl) (show _ from hS5) (fun hHeld => ?_)
                            refine wpAnyH_take (i := 0) (oi := { dst := some 247, op := Op.move (Operand.tmp 11), type := 45, pos := "law.go:199", after := #[], guard := none }) (v := ?_) rfl (by kernel_rfl) (by kernel_rfl) (by kernel_rfl) (fun _ _ _ h => h) (Or.inl ⟨by rfl, ?hy0⟩) (by assumption) ?_
                            case hy0 => (intro w_ hSw; (try dsimp only at hSw); go_simp; try (with_reducible rfl))
                            (try simp only [Act.put, List.setIfInBounds_toArray, List.set_cons_zero, List.set_cons_succ])
                            refine wpAnyH_take (i := 1) (oi := { dst := some 248, op := Op.move (Operand.tmp 24), type := 3, pos := "law.go:199", after := #[], guard := none }) (v := ?_) rfl (by kernel_rfl) (by kernel_rfl) (by kernel_rfl) (fun _ _ _ h => h) (Or.inl ⟨by rfl, ?hy1⟩) (by assumption) ?_
                            case hy1 => (intro w_ hSw; (try dsimp only at hSw); go_simp; try (with_reducible rfl))
                            (try simp only [Act.put, List.setIfInBounds_toArray, List.set_cons_zero, List.set_cons_succ])
                            refine wpAnyH_take (i := 3) (oi := { dst := some 250, op := Op.move (Operand.tmp 16), type := 22, pos := "law.go:199", after := #[], guard := none }) (v := ?_) rfl (by kernel_rfl) (by kernel_rfl) (by kernel_rfl) (fun _ _ _ h => h) (Or.inl ⟨by rfl, ?hy3⟩) (by assumption) ?_
                            case hy3 => (intro w_ hSw; (try dsimp only at hSw); go_simp; try (with_reducible rfl))
                            (try simp only [Act.put, List.setIfInBounds_toArray, List.set_cons_zero, List.set_cons_succ])
                            refine wpAnyH_take (i := 4) (oi := { dst := some 251, op := Op.move (Operand.tmp 24), type := 3, pos := "law.go:199", after := #[], guard := none }) (v := ?_) rfl (by kernel_rfl) (by kernel_rfl) (by kernel_rfl) (fun _ _ _ h => h) (Or.inl ⟨by rfl, ?hy4⟩) (by assumption) ?_
                            case hy4 => (intro w_ hSw; (try dsimp only at hSw); go_simp; try (with_reducible rfl))
                            (try simp only [Act.put, List.setIfInBounds_toArray, List.set_cons_zero, List.set_cons_succ])
                            refine wpAnyH_take (i := 5) (oi := { dst := some 252, op := Op.indexAddr 22 (Operand.tmp 250) (Operand.tmp 251), type := 0, pos := "law.go:199", after := #[{ on := 3, ground := Ground.data }, { on := 4, ground := Ground.data }], guard := none }) (v := ?_) rfl (by kernel_rfl) (by kernel_rfl) (by kernel_rfl) (fun _ _ _ h => h) (Or.inl ⟨by rfl, ?hy5⟩) (by assumption) ?_
                            case hy5 => (intro w_ hSw; (try dsimp only at hSw); go_simp; try (with_reducible rfl))
                            (try simp only [Act.put, List.setIfInBounds_toArray, List.set_cons_zero, List.set_cons_succ])
                            refine wpAnyH_take (i := 6) (oi := { dst := some 253, op := Op.load 3 (Operand.tmp 252), type := 3, pos := "law.go:199", after := #[{ on := 5, ground := Ground.data }], guard := none }) (v := ?_) rfl (by kernel_rfl) (by kernel_rfl) (by kernel_rfl) (fun _ _ _ h => h) (Or.inl ⟨by rfl, ?hy6⟩) (by assumption) ?_
                            case hy6 => (intro w_ hSw; (try dsimp only at hSw); go_simp; try (with_reducible rfl))
                            (try simp only [Act.put, List.setIfInBounds_toArray, List.set_cons_zero, List.set_cons_succ])
                            refine wpAnyH_ready (rs := [2]) (by kernel_rfl) (by simp) ?_
                            refine AllReadyH.cons (o := { dst := some 249, op := Op.call { callee := Callee.value (Operand.func 33), args := #[Operand.tmp 247, Operand.tmp 248], argTypes := #[45, 3] }, type := 3, pos := "law.go:199", after := #[{ on := 0, ground := Ground.data }, { on := 1, ground := Ground.data }], guard := none }) rfl (fun K_ hK => ?_) AllReadyH.nil
                            go_simp
                            (go_at_call 33; (with_reducible refine (above_calls HT5.out HP4.out).mono ?_); rintro e w6 ⟨rfl, hT, hK⟩; have HT6 := Aside0.mk hT; have HV6 := Aside0.mk (HV5.out.kt hK HFU.out.kt); have hS6 : w6.cell? ⟨gu, j, none⟩ = some (.int .i64 (up (j : Int))) := (HV6.out.at_ cj (back_at cj)).1; clear hT hK)
                            first | refine hK.out _ _ ?kp2 (fun hHeld => ?_) | (go_wp2_with fail; refine hK.out _ _ ?kp2 (fun hHeld => ?_))
                            case kp2 => exact (by assumption)
                            clear hK K_
                            (try simp only [Act.put, List.setIfInBounds_toArray, List.set_cons_zero, List.set_cons_succ])
                            refine wpAnyH_take (i := 7) (oi := { dst := some 254, op := Op.binOp BinOp.neq 3 (Operand.tmp 249) (Operand.tmp 253) 3, type := 4, pos := "law.go:199", after := #[{ on := 2, ground := Ground.data }, { on := 6, ground := Ground.data }], guard := none }) (v := ?_) rfl (by kernel_rfl) (by kernel_rfl) (by kernel_rfl) (fun _ _ _ h => h) (Or.inl ⟨by rfl, ?hy7⟩) (by assumption) ?_
                            case hy7 => (intro w_ hSw; (try dsimp only at hSw); go_simp; try (with_reducible rfl))
                            (try simp only [Act.put, List.setIfInBounds_toArray, List.set_cons_zero, List.set_cons_succ])
                            refine wpAnyH_done (by kernel_rfl) ?_ _
                            go_wp2
                            go_roundg (v - j)
                            case measure => exact HJ4.out.2.2
                            case rel => exact ⟨j + 1, by first | rfl | exact congrArg (Value.int .i64) HWJ.out, ⟨⟨HJ4.out.1, HJ4.out.2.1⟩⟩, HT6, HV6⟩
                        · as_aux_lemma =>
                            have hlt4 : ((j : Int) < (v : Int)) = False := eq_false (fun h => cj (Int.ofNat_lt.1 h))
                            go_wp2
                            go_ret
                            exact ⟨rfl, HT.out.old⟩
                  · as_aux_lemma =>
                      have hx0 : (0 : Int) ≤ (x : Int) := HX.out.1
                      have hxv : (x : Int) < (v : Int) := HPA.out.2.2
                      have HNO := Aside0.mk (not_on HUX.out HQ.out hsx)
                      have HLK := Aside0.mk (linked HUX.out HX.out.1 HX.out.2.1 HQ.out HNO.out)
                      have HYN : Aside0 (put up (x : Int) (y : Int) (x : Int) ≠ -1) := ⟨by rw [HLK.out.2.2.1]; omega⟩
                      go_wp2_with (first
                        | (go_at_call 29; (with_reducible refine (pick10_calls _ HXA.out.1 HXA.out.2 hn0).mono ?_); rw [HPA.out.1]; rintro e w' ⟨rfl, hw'⟩; have hw' := hw'.symm; subst hw')
                        | (go_at_call 29; (with_reducible refine (pick10_calls _ HXB.out.1 HXB.out.2 hn0).mono ?_); rw [HPB.out.1]; rintro e w' ⟨rfl, hw'⟩; have hw' := hw'.symm; subst hw')
                        | (go_at_call 32; (with_reducible refine (root_calls HT.out HP.out).mono ?_); rintro e wf1 ⟨rfl, hT, hK⟩; have HTf1 := Aside0.mk hT; have HVf1 := Aside0.mk (HV.out.kt hK HFU.out.kt); clear hT hK)
                        | (go_at_call 30; (with_reducible refine (link_ok HTf1.out HUX.out HX.out.1 HX.out.2.1 HQ.out HNO.out).mono ?_); rintro e wf2 ⟨rfl, hT, hK⟩; have HTf2 := Aside0.mk hT; have HVf2 := Aside0.mk (HVf1.out.kt hK HFU.out.kt); clear hT hK)
                        | (go_at_call 32; (with_reducible refine (root_calls HTf2.out HLK.out.1).mono ?_); rintro e wf3 ⟨rfl, hT, hK⟩; have HTf3 := Aside0.mk hT; have HVf3 := Aside0.mk (HVf2.out.kt hK HFU.out.kt); clear hT hK)
                        | (go_at_call 32; (with_reducible refine (root_calls HTf3.out HLK.out.2.1).mono ?_); rintro e wf4 ⟨rfl, hT, hK⟩; have HTf4 := Aside0.mk hT; have HVf4 := Aside0.mk (HVf3.out.kt hK HFU.out.kt); have hcx := (HVf4.out.at_ HXN.out (v := .int .i64 (-1)) (by unfold backArr; rw [if_pos HXN.out, HUX.out])).1; clear hT hK)
                        | (go_at_call 33; (with_reducible refine (above_calls HTf4.out HLK.out.2.1).mono ?_); rw [HLK.out.2.2.1]; rintro e wf5 ⟨rfl, hT, hK⟩; have HTf5 := Aside0.mk hT; have HVf5 := Aside0.mk (HVf4.out.kt hK HFU.out.kt); clear hT hK)
                        | (go_at_call 31; (with_reducible refine (cut_ok HTf5.out HX.out.1 HX.out.2.1 HYN.out).mono ?_); rw [HLK.out.2.2.2]; rintro e wz ⟨rfl, hT, hK⟩; have HTz := Aside0.mk hT; have HVz := Aside0.mk (HVf5.out.kt hK HFU.out.kt); clear hT hK)
                        | (go_at_call 32; (with_reducible refine (root_calls HTz.out HQ.out).mono ?_); rintro e we1 ⟨rfl, hT, hK⟩; have HTe1 := Aside0.mk hT; have HVe1 := Aside0.mk (HVz.out.kt hK HFU.out.kt); clear hT hK)
                        | (go_at_call 35; (with_reducible refine (evert_calls HTe1.out HQ.out).mono ?_); rintro e we2 ⟨rfl, hT, hK⟩; have HTe2 := Aside0.mk hT; have HVe2 := Aside0.mk (HVe1.out.kt hK HFU.out.kt); clear hT hK)
                        | (go_at_call 32; (with_reducible refine (root_calls HTe2.out HTW.out).mono ?_); rintro e we3 ⟨rfl, hT, hK⟩; have HTe3 := Aside0.mk hT; have HVe3 := Aside0.mk (HVe2.out.kt hK HFU.out.kt); clear hT hK)
                        | (go_at_call 35; (with_reducible refine (evert_calls HTe3.out HTW.out).mono ?_); rw [HTT.out]; rintro e we4 ⟨rfl, hT, hK⟩; have HTe4 := Aside0.mk hT; have HVe4 := Aside0.mk (HVe3.out.kt hK HFU.out.kt); clear hT hK))
                      clear HT HV HTz HVz HTe1 HTe2 HTe3 HVe1 HVe2 HVe3
                      go_loopg [24] (v + 1) (fun kq v24 wq => ∃ (j : Nat), v24 = .int .i64 (j : Int) ∧ Aside0 (j + kq = v + 1 ∧ 0 < kq) ∧ Aside0 (Tm D w wq up (worth (List.replicate v 0))) ∧ Aside0 (Va wq gu v 3 (backArr up v)))
                      case atStart => exact ⟨0, rfl, ⟨by omega⟩, HTe4, HVe4⟩
                      case round =>
                        clear HTe4 HVe4
                        obtain ⟨j, rfl, HK4, HT, HV⟩ := hrel
                        by_cases cj : j < v
                        · as_aux_lemma =>
                            have hjv : (j : Int) < (v : Int) := Int.ofNat_lt.2 cj
                            have hlt4 : ((j : Int) < (v : Int)) = True := eq_true hjv
                            have hj0 : (0 : Int) ≤ (j : Int) := Int.natCast_nonneg j
                            obtain ⟨P, hP⟩ := HT.out.ok (j : Int) hj0 (by rw [HD.out]; exact hjv)
                            have HP4 := Aside0.mk hP
                            have HWJ : Aside0 (wrap64 ((j : Int) + 1) = (j : Int) + 1) := ⟨by have h2_ := HN.out; exact w64s (by omega) (by omega)⟩
                            have HJ4 : Aside0 (j + 1 + (v - j) = v + 1 ∧ 0 < v - j ∧ v - j < gk) := ⟨by have h_ := HK4.out; omega⟩
                            clear hP
                            go_wp2
                            have HT5 := Aside0.mk (HT.out.below (below_drew (Below.refl _ _)))
                            have HV5 := Aside0.mk (HV.out.below (below_drew (Below.refl _ _)))
                            have hS5 : wr.drew.cell? ⟨gu, j, none⟩ = some (.int .i64 (up (j : Int))) := (HV5.out.at_ cj (back_at cj)).1
                            refine wp_region_held_drew (S := (fun W_ => W_.cell? ⟨gu, j, none⟩ = some (.int .i64 (up (j : Int))))) (by kernel_rfl) (show _ from hS5) (fun hHeld => ?_)
                            refine wpAnyH_take (i := 0) (oi := { dst := some 247, op := Op.move (Operand.tmp 11), type := 45, pos := "law.go:199", after := #[], guard := none }) (v := ?_) rfl (by kernel_rfl) (by kernel_rfl) (by kernel_rfl) (fun _ _ _ h => h) (Or.inl ⟨by rfl, ?hy0⟩) (by assumption) ?_
                            case hy0 => (intro w_ hSw; (try dsimp only at hSw); go_simp; try (with_reducible rfl))
                            (try simp only [Act.put, List.setIfInBounds_toArray, List.set_cons_zero, List.set_cons_succ])
                            refine wpAnyH_take (i := 1) (oi := { dst := some 248, op := Op.move (Operand.tmp 24), type := 3, pos := "law.go:199", after := #[], guard := none }) (v := ?_) rfl (by kernel_rfl) (by kernel_rfl) (by kernel_rfl) (fun _ _ _ h => h) (Or.inl ⟨by rfl, ?hy1⟩) (by assumption) ?_
                            case hy1 => (intro w_ hSw; (try dsimp only at hSw); go_simp; try (with_reducible rfl))
                            (try simp only [Act.put, List.setIfInBounds_toArray, List.set_cons_zero, List.set_cons_succ])
                            refine wpAnyH_take (i := 3) (oi := { dst := some 250, op := Op.move (Operand.tmp 16), type := 22, pos := "law.go:199", after := #[], guard := none }) (v := ?_) rfl (by kernel_rfl) (by kernel_rfl) (by kernel_rfl) (fun _ _ _ h => h) (Or.inl ⟨by rfl, ?hy3⟩) (by assumption) ?_
                            case hy3 => (intro w_ hSw; (try dsimp only at hSw); go_simp; try (with_reducible rfl))
                            (try simp only [Act.put, List.setIfInBounds_toArray, List.set_cons_zero, List.set_cons_succ])
                            refine wpAnyH_take (i := 4) (oi := { dst := some 251, op := Op.move (Operand.tmp 24), type := 3, pos := "law.go:199", after := #[], guard := none }) (v := ?_) rfl (by kernel_rfl) (by kernel_rfl) (by kernel_rfl) (fun _ _ _ h => h) (Or.inl ⟨by rfl, ?hy4⟩) (by assumption) ?_
                            case hy4 => (intro w_ hSw; (try dsimp only at hSw); go_simp; try (with_reducible rfl))
                            (try simp only [Act.put, List.setIfInBounds_toArray, List.set_cons_zero, List.set_cons_succ])
                            refine wpAnyH_take (i := 5) (oi := { dst := some 252, op := Op.indexAddr 22 (Operand.tmp 250) (Operand.tmp 251), type := 0, pos := "law.go:199", after := #[{ on := 3, ground := Ground.data }, { on := 4, ground := Ground.data }], guard := none }) (v := ?_) rfl (by kernel_rfl) (by kernel_rfl) (by kernel_rfl) (fun _ _ _ h => h) (Or.inl ⟨by rfl, ?hy5⟩) (by assumption) ?_
                            case hy5 => (intro w_ hSw; (try dsimp only at hSw); go_simp; try (with_reducible rfl))
                            (try simp only [Act.put, List.setIfInBounds_toArray, List.set_cons_zero, List.set_cons_succ])
                            refine wpAnyH_take (i := 6) (oi := { dst := some 253, op := Op.load 3 (Operand.tmp 252), type := 3, pos := "law.go:199", after := #[{ on := 5, ground := Ground.data }], guard := none }) (v := ?_) rfl (by kernel_rfl) (by kernel_rfl) (by kernel_rfl) (fun _ _ _ h => h) (Or.inl ⟨by rfl, ?hy6⟩) (by assumption) ?_
                            case hy6 => (intro w_ hSw; (try dsimp only at hSw); go_simp; try (with_reducible rfl))
                            (try simp only [Act.put, List.setIfInBounds_toArray, List.set_cons_zero, List.set_cons_succ])
                            refine wpAnyH_ready (rs := [2]) (by kernel_rfl) (by simp) ?_
                            refine AllReadyH.cons (o := { dst := some 249, op := Op.call { callee := Callee.value (Operand.func 33), args := #[Operand.tmp 247, Operand.tmp 248], argTypes := #[45, 3] }, type := 3, pos := "law.go:199", after := #[{ on := 0, ground := Ground.data }, { on := 1, ground := Ground.data }], guard := none }) rfl (fun K_ hK => ?_) AllReadyH.nil
                            go_simp
                            (go_at_call 33; (with_reducible refine (above_calls HT5.out HP4.out).mono ?_); rintro e w6 ⟨rfl, hT, hK⟩; have HT6 := Aside0.mk hT; have HV6 := Aside0.mk (HV5.out.kt hK HFU.out.kt); have hS6 : w6.cell? ⟨gu, j, none⟩ = some (.int .i64 (up (j : Int))) := (HV6.out.at_ cj (back_at cj)).1; clear hT hK)
                            first | refine hK.out _ _ ?kp2 (fun hHeld => ?_) | (go_wp2_with fail; refine hK.out _ _ ?kp2 (fun hHeld => ?_))
                            case kp2 => exact (by assumption)
                            clear hK K_
                            (try simp only [Act.put, List.setIfInBounds_toArray, List.set_cons_zero, List.set_cons_succ])
                            refine wpAnyH_take (i := 7) (oi := { dst := some 254, op := Op.binOp BinOp.neq 3 (Operand.tmp 249) (Operand.tmp 253) 3, type := 4, pos := "law.go:199", after := #[{ on := 2, ground := Ground.data }, { on := 6, ground := Ground.data }], guard := none }) (v := ?_) rfl (by kernel_rfl) (by kernel_rfl) (by kernel_rfl) (fun _ _ _ h => h) (Or.inl ⟨by rfl, ?hy7⟩) (by assumption) ?_
                            case hy7 => (intro w_ hSw; (try dsimp only at hSw); go_simp; try (with_reducible rfl))
                            (try simp only [Act.put, List.setIfInBounds_toArray, List.set_cons_zero, List.set_cons_succ])
                            refine wpAnyH_done (by kernel_rfl) ?_ _
                            go_wp2
                            go_roundg (v - j)
                            case measure => exact HJ4.out.2.2
                            case rel => exact ⟨j + 1, by first | rfl | exact congrArg (Value.int .i64) HWJ.out, ⟨⟨HJ4.out.1, HJ4.out.2.1⟩⟩, HT6, HV6⟩
                        · as_aux_lemma =>
                            have hlt4 : ((j : Int) < (v : Int)) = False := eq_false (fun h => cj (Int.ofNat_lt.1 h))
                            go_wp2
                            go_ret
                            exact ⟨rfl, HT.out.old⟩
                · as_aux_lemma =>
                    have hrb : (r == (x : Int)) = false := beq_eq_false_iff_ne.mpr hrx
                    have HRX := Aside0.mk hrx
                    clear hrx
                    go_wp2_with (first
                      | (go_at_call 29; (with_reducible refine (pick10_calls _ HXA.out.1 HXA.out.2 hn0).mono ?_); rw [HPA.out.1]; rintro e w' ⟨rfl, hw'⟩; have hw' := hw'.symm; subst hw')
                      | (go_at_call 29; (with_reducible refine (pick10_calls _ HXB.out.1 HXB.out.2 hn0).mono ?_); rw [HPB.out.1]; rintro e w' ⟨rfl, hw'⟩; have hw' := hw'.symm; subst hw')
                      | (go_at_call 32; (with_reducible refine (root_calls HT.out HP.out).mono ?_); rintro e wf1 ⟨rfl, hT, hK⟩; have HTf1 := Aside0.mk hT; have HVf1 := Aside0.mk (HV.out.kt hK HFU.out.kt); clear hT hK)
                      | (go_at_call 30; (with_reducible refine (link_no HTf1.out HP.out HRX.out HX.out.2.2.1 HX.out.2.2.2).mono ?_); rintro e wz ⟨rfl, hT, hK⟩; have HTz := Aside0.mk hT; have HVz := Aside0.mk (HVf1.out.kt hK HFU.out.kt); clear hT hK)
                      | (go_at_call 32; (with_reducible refine (root_calls HTz.out HQ.out).mono ?_); rintro e we1 ⟨rfl, hT, hK⟩; have HTe1 := Aside0.mk hT; have HVe1 := Aside0.mk (HVz.out.kt hK HFU.out.kt); clear hT hK)
                      | (go_at_call 35; (with_reducible refine (evert_calls HTe1.out HQ.out).mono ?_); rintro e we2 ⟨rfl, hT, hK⟩; have HTe2 := Aside0.mk hT; have HVe2 := Aside0.mk (HVe1.out.kt hK HFU.out.kt); clear hT hK)
                      | (go_at_call 32; (with_reducible refine (root_calls HTe2.out HTW.out).mono ?_); rintro e we3 ⟨rfl, hT, hK⟩; have HTe3 := Aside0.mk hT; have HVe3 := Aside0.mk (HVe2.out.kt hK HFU.out.kt); clear hT hK)
                      | (go_at_call 35; (with_reducible refine (evert_calls HTe3.out HTW.out).mono ?_); rw [HTT.out]; rintro e we4 ⟨rfl, hT, hK⟩; have HTe4 := Aside0.mk hT; have HVe4 := Aside0.mk (HVe3.out.kt hK HFU.out.kt); clear hT hK))
                    clear HT HV HTz HVz HTe1 HTe2 HTe3 HVe1 HVe2 HVe3
                    go_loopg [24] (v + 1) (fun kq v24 wq => ∃ (j : Nat), v24 = .int .i64 (j : Int) ∧ Aside0 (j + kq = v + 1 ∧ 0 < kq) ∧ Aside0 (Tm D w wq up (worth (List.replicate v 0))) ∧ Aside0 (Va wq gu v 3 (backArr up v)))
                    case atStart => exact ⟨0, rfl, ⟨by omega⟩, HTe4, HVe4⟩
                    case round =>
                      clear HTe4 HVe4
                      obtain ⟨j, rfl, HK4, HT, HV⟩ := hrel
                      by_cases cj : j < v
                      · as_aux_lemma =>
                          have hjv : (j : Int) < (v : Int) := Int.ofNat_lt.2 cj
                          have hlt4 : ((j : Int) < (v : Int)) = True := eq_true hjv
                          have hj0 : (0 : Int) ≤ (j : Int) := Int.natCast_nonneg j
                          obtain ⟨P, hP⟩ := HT.out.ok (j : Int) hj0 (by rw [HD.out]; exact hjv)
                          have HP4 := Aside0.mk hP
                          have HWJ : Aside0 (wrap64 ((j : Int) + 1) = (j : Int) + 1) := ⟨by have h2_ := HN.out; exact w64s (by omega) (by omega)⟩
                          have HJ4 : Aside0 (j + 1 + (v - j) = v + 1 ∧ 0 < v - j ∧ v - j < gk) := ⟨by have h_ := HK4.out; omega⟩
                          clear hP
                          go_wp2
                          have HT5 := Aside0.mk (HT.out.below (below_drew (Below.refl _ _)))
                          have HV5 := Aside0.mk (HV.out.below (below_drew (Below.refl _ _)))
                          have hS5 : wr.drew.cell? ⟨gu, j, none⟩ = some (.int .i64 (up (j : Int))) := (HV5.out.at_ cj (back_at cj)).1
                          refine wp_region_held_drew (S := (fun W_ => W_.cell? ⟨gu, j, none⟩ = some (.int .i64 (up (j : Int))))) (by kernel_rfl) (show _ from hS5) (fun hHeld => ?_)
                          refine wpAnyH_take (i := 0) (oi := { dst := some 247, op := Op.move (Operand.tmp 11), type := 45, pos := "law.go:199", after := #[], guard := none }) (v := ?_) rfl (by kernel_rfl) (by kernel_rfl) (by kernel_rfl) (fun _ _ _ h => h) (Or.inl ⟨by rfl, ?hy0⟩) (by assumption) ?_
                          case hy0 => (intro w_ hSw; (try dsimp only at hSw); go_simp; try (with_reducible rfl))
                          (try simp only [Act.put, List.setIfInBounds_toArray, List.set_cons_zero, List.set_cons_succ])
                          refine wpAnyH_take (i := 1) (oi := { dst := some 248, op := Op.move (Operand.tmp 24), type := 3, pos := "law.go:199", after := #[], guard := none }) (v := ?_) rfl (by kernel_rfl) (by kernel_rfl) (by kernel_rfl) (fun _ _ _ h => h) (Or.inl ⟨by rfl, ?hy1⟩) (by assumption) ?_
                          case hy1 => (intro w_ hSw; (try dsimp only at hSw); go_simp; try (with_reducible rfl))
                          (try simp only [Act.put, List.setIfInBounds_toArray, List.set_cons_zero, List.set_cons_succ])
                          refine wpAnyH_take (i := 3) (oi := { dst := some 250, op := Op.move (Operand.tmp 16), type := 22, pos := "law.go:199", after := #[], guard := none }) (v := ?_) rfl (by kernel_rfl) (by kernel_rfl) (by kernel_rfl) (fun _ _ _ h => h) (Or.inl ⟨by rfl, ?hy3⟩) (by assumption) ?_
                          case hy3 => (intro w_ hSw; (try dsimp only at hSw); go_simp; try (with_reducible rfl))
                          (try simp only [Act.put, List.setIfInBounds_toArray, List.set_cons_zero, List.set_cons_succ])
                          refine wpAnyH_take (i := 4) (oi := { dst := some 251, op := Op.move (Operand.tmp 24), type := 3, pos := "law.go:199", after := #[], guard := none }) (v := ?_) rfl (by kernel_rfl) (by kernel_rfl) (by kernel_rfl) (fun _ _ _ h => h) (Or.inl ⟨by rfl, ?hy4⟩) (by assumption) ?_
                          case hy4 => (intro w_ hSw; (try dsimp only at hSw); go_simp; try (with_reducible rfl))
                          (try simp only [Act.put, List.setIfInBounds_toArray, List.set_cons_zero, List.set_cons_succ])
                          refine wpAnyH_take (i := 5) (oi := { dst := some 252, op := Op.indexAddr 22 (Operand.tmp 250) (Operand.tmp 251), type := 0, pos := "law.go:199", after := #[{ on := 3, ground := Ground.data }, { on := 4, ground := Ground.data }], guard := none }) (v := ?_) rfl (by kernel_rfl) (by kernel_rfl) (by kernel_rfl) (fun _ _ _ h => h) (Or.inl ⟨by rfl, ?hy5⟩) (by assumption) ?_
                          case hy5 => (intro w_ hSw; (try dsimp only at hSw); go_simp; try (with_reducible rfl))
                          (try simp only [Act.put, List.setIfInBounds_toArray, List.set_cons_zero, List.set_cons_succ])
                          refine wpAnyH_take (i := 6) (oi := { dst := some 253, op := Op.load 3 (Operand.tmp 252), type := 3, pos := "law.go:199", after := #[{ on := 5, ground := Ground.data }], guard := none }) (v := ?_) rfl (by kernel_rfl) (by kernel_rfl) (by kernel_rfl) (fun _ _ _ h => h) (Or.inl ⟨by rfl, ?hy6⟩) (by assumption) ?_
                          case hy6 => (intro w_ hSw; (try dsimp only at hSw); go_simp; try (with_reducible rfl))
                          (try simp only [Act.put, List.setIfInBounds_toArray, List.set_cons_zero, List.set_cons_succ])
                          refine wpAnyH_ready (rs := [2]) (by kernel_rfl) (by simp) ?_
                          refine AllReadyH.cons (o := { dst := some 249, op := Op.call { callee := Callee.value (Operand.func 33), args := #[Operand.tmp 247, Operand.tmp 248], argTypes := #[45, 3] }, type := 3, pos := "law.go:199", after := #[{ on := 0, ground := Ground.data }, { on := 1, ground := Ground.data }], guard := none }) rfl (fun K_ hK => ?_) AllReadyH.nil
                          go_simp
                          (go_at_call 33; (with_reducible refine (above_calls HT5.out HP4.out).mono ?_); rintro e w6 ⟨rfl, hT, hK⟩; have HT6 := Aside0.mk hT; have HV6 := Aside0.mk (HV5.out.kt hK HFU.out.kt); have hS6 : w6.cell? ⟨gu, j, none⟩ = some (.int .i64 (up (j : Int))) := (HV6.out.at_ cj (back_at cj)).1; clear hT hK)
                          first | refine hK.out _ _ ?kp2 (fun hHeld => ?_) | (go_wp2_with fail; refine hK.out _ _ ?kp2 (fun hHeld => ?_))
                          case kp2 => exact (by assumption)
                          clear hK K_
                          (try simp only [Act.put, List.setIfInBounds_toArray, List.set_cons_zero, List.set_cons_succ])
                          refine wpAnyH_take (i := 7) (oi := { dst := some 254, op := Op.binOp BinOp.neq 3 (Operand.tmp 249) (Operand.tmp 253) 3, type := 4, pos := "law.go:199", after := #[{ on := 2, ground := Ground.data }, { on := 6, ground := Ground.data }], guard := none }) (v := ?_) rfl (by kernel_rfl) (by kernel_rfl) (by kernel_rfl) (fun _ _ _ h => h) (Or.inl ⟨by rfl, ?hy7⟩) (by assumption) ?_
                          case hy7 => (intro w_ hSw; (try dsimp only at hSw); go_simp; try (with_reducible rfl))
                          (try simp only [Act.put, List.setIfInBounds_toArray, List.set_cons_zero, List.set_cons_succ])
                          refine wpAnyH_done (by kernel_rfl) ?_ _
                          go_wp2
                          go_roundg (v - j)
                          case measure => exact HJ4.out.2.2
                          case rel => exact ⟨j + 1, by first | rfl | exact congrArg (Value.int .i64) HWJ.out, ⟨⟨HJ4.out.1, HJ4.out.2.1⟩⟩, HT6, HV6⟩
                      · as_aux_lemma =>
                          have hlt4 : ((j : Int) < (v : Int)) = False := eq_false (fun h => cj (Int.ofNat_lt.1 h))
                          go_wp2
                          go_ret
                          exact ⟨rfl, HT.out.old⟩
end Go.Proofs.YtcnmbgijehnchaaW.Splay
