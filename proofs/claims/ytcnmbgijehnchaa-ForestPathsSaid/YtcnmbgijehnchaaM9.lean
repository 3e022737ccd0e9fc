/- ForestPaths (walk by hand; printed by mkM9.py). -/
import Derived.Test.YtcnmbgijehnchaaM8
set_option linter.unusedVariables false
set_option linter.unusedSimpArgs false
namespace Go.Proofs.YtcnmbgijehnchaaW.Splay
open Go.RowKit Go.Shelf Go.Proofs.YtcnmbgijehnchaaW.PrintWords Go.Proofs.YtcnmbgijehnchaaW.PrintLast Go.Proofs.YtcnmbgijehnchaaW.PrintMore Go.Proofs.YtcnmbgijehnchaaW.Mine
attribute [local go_sem] max2_int min2_int max_two min_two max_three min_three max_four min_four Oper.semAt_some
set_option maxHeartbeats 16000000 in
set_option maxRecDepth 100000 in
theorem paths_law {w : World} {c1 cv cd : Int} {A : Option Addr} {l : List Ac} {c : Nat} (hc1 : (Lit.int .i64 c1).wf = true) (hr : RdA w A l) (hcv : (Lit.int .i64 cv).wf = true) (hcd : (Lit.int .i64 cd).wf = true) :
    Calls Try.prog 11 #[.int .i64 c1, .slice A l.length c, .int .i64 cv, .int .i64 cd] w fun e w' => e = .returned (.bool true) ∧ Below w.heap.size w w' := by
  have HR := Aside0.mk hr
  clear hr
  by_cases c0 : 80 < l.length
  · have c1b : (80 : Int) < (l.length : Int) := by omega
    go_enter Try.func11, Try.ntmps11
    go_wp2_with (go_at_call 27; (with_reducible refine (shown10_calls _).mono ?_); rintro e w1 ⟨rfl, hB⟩; have HB1 := Aside0.mk hB; clear hB)
    go_ret
    exact ⟨rfl, HB1.out⟩
  · obtain ⟨a1, a2⟩ := wf_bounds hc1
    have HXV := Aside0.mk (wf_bounds hcv)
    have p1 := pk_range (c := c1) (n := 14) (by decide)
    obtain ⟨n, hn, hn2, hn3⟩ : ∃ n : Nat, pk c1 14 = ((n : Int) - 2) ∧ 2 ≤ n ∧ n < 16 := ⟨(pk c1 14 + 2).toNat, by omega, by omega, by omega⟩
    have c1b : (l.length : Int) ≤ 80 := by omega
    have c1c : decide ((80 : Int) < (l.length : Int)) = false := decide_eq_false (by omega)
    have HN := Aside0.mk (And.intro hn2 hn3)
    have H1 := Aside0.mk (And.intro a1 a2)
    have HP1 := Aside0.mk hn
    have HC0 := Aside0.mk c0
    have HNP : Aside0 (0 < n ∧ n ≤ 3000) := ⟨by omega⟩
    have hi2 : (2 + ((n : Int) - 2)) = (n : Int) := by omega
    have hn0 : (0 : Int) < (n : Int) := by omega
    clear p1
    have hw2 : wrap64 (2 + ((n : Int) - 2)) = (n : Int) := by rw [w64s (by omega) (by omega)]; omega
    have hw5 : wrap64 (n : Int) = (n : Int) := by clear hw2; exact w64s (by omega) (by omega)
    obtain ⟨x, hx⟩ : ∃ x : Nat, pk cv (n : Int) = (x : Int) := ⟨(pk cv (n : Int)).toNat, by have h_ := pk_range (c := cv) hn0; clear hw2 hw5; omega⟩
    have HPV : Aside0 (pk cv (n : Int) = (x : Int) ∧ 0 ≤ (x : Int) ∧ (x : Int) < (n : Int)) := ⟨⟨hx, by rw [← hx]; exact pk_range hn0⟩⟩
    obtain ⟨dd, hdd⟩ : ∃ z, Int.tmod cd 1000 = z := ⟨_, rfl⟩
    have hds := tmod_small cd
    rw [hdd] at hds
    have HDS := Aside0.mk hds
    have HDD := Aside0.mk hdd
    obtain ⟨vs, hvs⟩ : ∃ vs, pvs n = vs := ⟨_, rfl⟩
    have HVL : Aside0 (vs.length = n) := ⟨by rw [← hvs]; simp [pvs]⟩
    have HVS := Aside0.mk hvs
    have HVB : Aside0 (∀ v ∈ vs, 0 ≤ v ∧ v ≤ 4) := ⟨by rw [← hvs]; exact pvs_bd n⟩
    have HVW : Aside0 (∀ v ∈ vs, -4611686018427387904 ≤ v ∧ v ≤ 4611686018427387904) := ⟨fun v hv => by have h_ := HVB.out v hv; clear hw2 hw5 hdd; omega⟩
    clear hn hn2 hn3 a1 a2 hc1 hcv hcd c0 hx hvs hdd hds
    go_enter Try.func11, Try.ntmps11
    go_wp2_with (first
      | (go_at_call 27; (with_reducible refine (shown10_calls _).mono ?_); rintro e w1 ⟨rfl, hB⟩; have HB1 := Aside0.mk hB; clear hB)
      | (go_at_call 29; (with_reducible refine (pick10_calls _ H1.out.1 H1.out.2 (by decide)).mono ?_); rw [HP1.out]; rintro e w' ⟨rfl, hw'⟩; have hw' := hw'.symm; subst hw'))
    have HW5 := Aside0.mk hw5
    clear c1c hw2 hw5 hi2
    try rw [HW5.out]
    go_loopg [11, 12] (n + 1) (fun kq v11 v12 wr => ∃ (j : Nat), v12 = .int .i64 (j : Int) ∧ Aside0 (j + kq = n + 1 ∧ 0 < kq) ∧ Aside0 (wr.ownsRow w.heap.size 2 1 v11 j (ints (vs.take j))) ∧ Aside0 (Below w.heap.size w wr))
    case atStart => exact ⟨0, rfl, ⟨by omega⟩, ⟨⟨rfl, .inl ⟨rfl, rfl⟩⟩⟩, HB1⟩
    case round =>
      clear HB1
      obtain ⟨j, rfl, HK, HO, HB⟩ := hrel
      obtain ⟨av, cv2, ev⟩ := own_slice HO.out
      subst ev
      by_cases c5 : j < n
      · as_aux_lemma =>
          have hlt : (j : Int) < (n : Int) := Int.ofNat_lt.2 c5
          have HK2 : Aside0 (j + 1 + (n - j) = n + 1 ∧ 0 < n - j ∧ n - j < gk) := ⟨by have h_ := HK.out; omega⟩
          have HW1 := Aside0.mk (wr1 j (by have h_ := HN.out; omega))
          obtain ⟨s7, h7⟩ : ∃ s, 7 * (j : Int) = s := ⟨_, rfl⟩
          obtain ⟨p, hp⟩ : ∃ p, s7.tmod 5 = p := ⟨_, rfl⟩
          have hs7 : wrap64 s7 = s7 := by rw [← h7]; have h_ := HN.out; clear hp; exact w64s (by omega) (by omega)
          have HPB : Aside0 (0 ≤ p ∧ p ≤ 4) := ⟨by
            have h1_ := Int.tmod_nonneg 5 (show (0 : Int) ≤ s7 by rw [← h7]; clear hs7 hp; omega)
            have h2_ := Int.tmod_lt_of_pos s7 (show (0 : Int) < 5 by decide)
            rw [hp] at h1_ h2_
            clear hs7 hp h7
            omega⟩
          have HTK : Aside0 (vs.take (j + 1) = vs.take j ++ [p]) := ⟨by rw [← HVS.out, pvs_take c5, h7, hp]⟩
          have HQ : Aside0 (ints (vs.take j) ++ [.int .i64 p] = ints (vs.take j ++ [p])) := ⟨by simp [ints]⟩
          have hpw : wrap64 p = p := by have h_ := HPB.out; clear hs7 hp h7; exact w64s (by omega) (by omega)
          have hwz : w.heap.size ≤ wr.heap.size := HB.out.size
          have HJB : Aside0 ((j + 1) * 8 ≤ 140737488355328) := ⟨by have h_ := HN.out; clear hs7 hp h7 hpw; omega⟩
          go_wp2_with ((with_reducible refine gate_builtin (b := .append) (xs := #[.tmp 43, .tmp 47]) rfl ?_); at_builtin; refine print_append_cells (w0 := wr) w.heap.size rfl (.tmp 43) (.tmp 47) 24 2 (.int .i64 0) 1 8 rfl Try.underlying24 info_i64 rfl (by decide) (by decide) (.slice av j cv2) j (ints (vs.take j)) [.int .i64 p] rfl rfl rfl ?aH ?aO (Below.refl _ _) ?aS ?aL ?_; (case aH => intro z hz; simp at hz; subst hz; rfl); (case aO => exact HO.out); (case aS => exact hwz); (case aL => exact HJB.out); intro v1 w5 ho hb5 hg hat; rw [HQ.out] at ho; obtain ⟨g5, c5, e5⟩ := ownsRow_succ ho; subst e5; have HO5 := Aside0.mk ho; have HB5 : Aside0 (Below w.heap.size w w5) := ⟨HB.out.grown hg HB.out.size (fun r e => (own_typed HO.out r e).1)⟩; clear ho hb5 hg hat)
          go_roundg (n - j)
          case measure => exact HK2.out.2.2
          case rel => exact ⟨j + 1, by first | rw [HW1.out] | rfl, ⟨⟨HK2.out.1, HK2.out.2.1⟩⟩, ⟨by rw [HTK.out]; exact HO5.out⟩, HB5⟩
      · as_aux_lemma =>
          obtain rfl : j = n := by have h_ := HK.out; omega
          have hge : (j : Int) ≤ (j : Int) := Int.le_refl _
          have hvr := HO.out
          rw [← HVL.out, List.take_length] at hvr
          obtain ⟨gv, cw, ev, hcw, _, hgv, _, hrv⟩ := own_row hvr (by have h_ := HN.out; have h2_ := HVL.out; omega)
          injection ev with ev1 ev2 ev3
          subst ev1
          have HRV := Aside0.mk hrv
          have HCV : (j : Int) ≤ (cv2 : Int) := by rw [HVL.out] at hcw; omega
          clear hvr hcw ev3 hgv hrv HO
          go_wp2_with (go_at_call 28; (refine (tnew_calls (w0 := w) HVL.out HB.out HRV.out.all HNP.out.2 HNP.out.1 HVW.out).mono ?_); rintro e w2 ⟨D, rfl, hN, b1, b2, b3, b4, hB, hT⟩; have HD : Aside0 ((D.N : Int) = (j : Int)) := ⟨by rw [hN]⟩; have HT := Aside0.mk hT; have HGV : Aside0 (gv ≠ D.gs ∧ gv ≠ D.gn ∧ gv ≠ D.go) := ⟨by have h_ := HRV.out.lt; omega⟩; have HRW := Aside0.mk (HRV.out.below hB); clear hN hB hT b1 b2 b3 b4)
          have HBD := Aside0.mk (worth_bd HVB.out)
          obtain ⟨val, hval⟩ : ∃ val, worth vs = val := ⟨_, rfl⟩
          have HWA : Aside0 (∀ i : Nat, i < j → vs[i]? = some (val (i : Int))) := ⟨fun i hi => by rw [← hval]; exact worth_at (by rw [HVL.out]; exact hi)⟩
          rw [hval] at HT HBD
          clear hval HRV HK HB
          go_loopg [15] (l.length + 1) (fun kq v15 wq => ∃ (q : Nat) (up : Int → Int), v15 = .int .i64 (q : Int) ∧ Aside0 (q + kq = l.length + 1 ∧ 0 < kq) ∧ Aside0 (Tm D w wq up val) ∧ Aside0 (RowC wq gv vs))
          case atStart => exact ⟨0, _, rfl, ⟨by omega⟩, HT, HRW⟩
          case round =>
            clear HT HRW
            obtain ⟨q, up, rfl, HK, HT, HRW⟩ := hrel
            by_cases c6 : q < l.length
            · as_aux_lemma =>
                have hlt : (q : Int) < (l.length : Int) := Int.ofNat_lt.2 c6
                have q0 : (0 : Int) ≤ (q : Int) := Int.natCast_nonneg q
                obtain ⟨a, ac, rfl, hac, ⟨wo, wx, wy, wd⟩, hcell⟩ := HR.out.at2 c6
                obtain ⟨oo, hoo⟩ : ∃ z, ac.op = z := ⟨_, rfl⟩
                obtain ⟨xx, hxx⟩ : ∃ z, ac.x = z := ⟨_, rfl⟩
                obtain ⟨yy, hyy⟩ : ∃ z, ac.y = z := ⟨_, rfl⟩
                rw [hoo, hxx, hyy] at hcell
                rw [hoo] at wo
                rw [hxx] at wx
                rw [hyy] at wy
                have HCELL := Aside0.mk hcell
                obtain ⟨r0, r1, r2⟩ := hcell _ HT.out.old
                have HWO := Aside0.mk (wf_bounds wo)
                have HWX := Aside0.mk (wf_bounds wx)
                have HWY := Aside0.mk (wf_bounds wy)
                obtain ⟨x1, hx⟩ : ∃ z, pk xx (j : Int) = z := ⟨_, rfl⟩
                obtain ⟨y1, hy⟩ : ∃ z, pk yy (j : Int) = z := ⟨_, rfl⟩
                obtain ⟨o, ho⟩ : ∃ z, pk oo 4 = z := ⟨_, rfl⟩
                have po := pk_range (c := oo) (n := 4) (by decide)
                rw [ho] at po
                have HPX : Aside0 (pk xx (j : Int) = x1 ∧ 0 ≤ x1 ∧ x1 < (D.N : Int)) := ⟨by rw [HD.out, ← hx]; exact ⟨rfl, pk_range hn0⟩⟩
                have HPY : Aside0 (pk yy (j : Int) = y1 ∧ 0 ≤ y1 ∧ y1 < (D.N : Int)) := ⟨by rw [HD.out, ← hy]; exact ⟨rfl, pk_range hn0⟩⟩
                have HK4 : Aside0 (q + 1 + (l.length - q) = l.length + 1 ∧ 0 < l.length - q ∧ l.length - q < gk) := ⟨by have h_ := HK.out; omega⟩
                have HWQ : Aside0 (wrap64 ((q : Int) + 1) = (q : Int) + 1) := ⟨by have h_ := HC0.out; exact w64s (by omega) (by omega)⟩
                have ho4 : (o = 0 ∨ o = 1 ∨ o = 2) ∨ o = 3 := by omega
                clear hac wo wx wy wd hoo hxx hyy hx hy po hcell
                rcases ho4 with ho4 | rfl
                · rcases ho4 with rfl | rfl | rfl
                  all_goals
                    as_aux_lemma =>
                      have HPO := Aside0.mk ho
                      clear ho
                      go_wp2_with (go_at_call 29; (with_reducible refine (pick10_calls _ HWO.out.1 HWO.out.2 (by decide)).mono ?_); rw [HPO.out]; rintro e w' ⟨rfl, hw'⟩; have hw' := hw'.symm; subst hw')
                      have HT5 := Aside0.mk (HT.out.below (below_drew (Below.refl _ _)))
                      have HR5 := Aside0.mk (HRW.out.below (below_drew (Below.refl _ _)))
                      have hS5 : wr.drew.cell? ⟨(a.add (q * 4)).block, (a.add (q * 4)).off + 1, none⟩ = some (.int .i64 xx) ∧ wr.drew.cell? ⟨(a.add (q * 4)).block, (a.add (q * 4)).off + 2, none⟩ = some (.int .i64 yy) := (HCELL.out _ HT5.out.old).2
                      refine wp_region_held_drew (S := (fun W_ => W_.cell? ⟨(a.add (q * 4)).block, (a.add (q * 4)).off + 1, none⟩ = some (.int .i64 xx) ∧ W_.cell? ⟨(a.add (q * 4)).block, (a.add (q * 4)).off + 2, none⟩ = some (.int .i64 yy))) (by kernel_rfl) (show _ from hS5) (fun hHeld => ?_)
                      refine wpAnyH_take (i := 0) (oi := { dst := some 85, op := Op.move (Operand.tmp 13), type := 45, pos := "more.go:26", after := #[], guard := none }) (v := ?_) rfl (by kernel_rfl) (by kernel_rfl) (by kernel_rfl) (fun _ _ _ h => h) (Or.inl ⟨by rfl, ?hy0⟩) (by assumption) ?_
                      case hy0 => (intro w_ hSw; (try dsimp only at hSw); go_simp; try (with_reducible rfl))
                      (try simp only [Act.put, List.setIfInBounds_toArray, List.set_cons_zero, List.set_cons_succ])
                      refine wpAnyH_take (i := 1) (oi := { dst := some 86, op := Op.move (Operand.tmp 1), type := 50, pos := "more.go:26", after := #[], guard := none }) (v := ?_) rfl (by kernel_rfl) (by kernel_rfl) (by kernel_rfl) (fun _ _ _ h => h) (Or.inl ⟨by rfl, ?hy1⟩) (by assumption) ?_
                      case hy1 => (intro w_ hSw; (try dsimp only at hSw); go_simp; try (with_reducible rfl))
                      (try simp only [Act.put, List.setIfInBounds_toArray, List.set_cons_zero, List.set_cons_succ])
                      refine wpAnyH_take (i := 2) (oi := { dst := some 87, op := Op.move (Operand.tmp 15), type := 3, pos := "more.go:26", after := #[], guard := none }) (v := ?_) rfl (by kernel_rfl) (by kernel_rfl) (by kernel_rfl) (fun _ _ _ h => h) (Or.inl ⟨by rfl, ?hy2⟩) (by assumption) ?_
                      case hy2 => (intro w_ hSw; (try dsimp only at hSw); go_simp; try (with_reducible rfl))
                      (try simp only [Act.put, List.setIfInBounds_toArray, List.set_cons_zero, List.set_cons_succ])
                      refine wpAnyH_take (i := 3) (oi := { dst := some 88, op := Op.indexAddr 50 (Operand.tmp 86) (Operand.tmp 87), type := 0, pos := "more.go:26", after := #[{ on := 1, ground := Ground.data }, { on := 2, ground := Ground.data }], guard := none }) (v := ?_) rfl (by kernel_rfl) (by kernel_rfl) (by kernel_rfl) (fun _ _ _ h => h) (Or.inl ⟨by rfl, ?hy3⟩) (by assumption) ?_
                      case hy3 => (intro w_ hSw; (try dsimp only at hSw); go_simp; try (with_reducible rfl))
                      (try simp only [Act.put, List.setIfInBounds_toArray, List.set_cons_zero, List.set_cons_succ])
                      refine wpAnyH_take (i := 4) (oi := { dst := some 89, op := Op.fieldAddr 51 (Operand.tmp 88) 1, type := 0, pos := "more.go:26", after := #[{ on := 3, ground := Ground.data }], guard := none }) (v := ?_) rfl (by kernel_rfl) (by kernel_rfl) (by kernel_rfl) (fun _ _ _ h => h) (Or.inl ⟨by rfl, ?hy4⟩) (by assumption) ?_
                      case hy4 => (intro w_ hSw; (try dsimp only at hSw); go_simp; try (with_reducible rfl))
                      (try simp only [Act.put, List.setIfInBounds_toArray, List.set_cons_zero, List.set_cons_succ])
                      refine wpAnyH_take (i := 5) (oi := { dst := some 90, op := Op.load 3 (Operand.tmp 89), type := 3, pos := "more.go:26", after := #[{ on := 4, ground := Ground.data }], guard := none }) (v := ?_) rfl (by kernel_rfl) (by kernel_rfl) (by kernel_rfl) (fun _ _ _ h => h) (Or.inl ⟨by rfl, ?hy5⟩) (by assumption) ?_
                      case hy5 => (intro w_ hSw; (try dsimp only at hSw); go_simp; try (with_reducible rfl))
                      (try simp only [Act.put, List.setIfInBounds_toArray, List.set_cons_zero, List.set_cons_succ])
                      refine wpAnyH_take (i := 6) (oi := { dst := some 91, op := Op.move (Operand.tmp 10), type := 3, pos := "more.go:26", after := #[], guard := none }) (v := ?_) rfl (by kernel_rfl) (by kernel_rfl) (by kernel_rfl) (fun _ _ _ h => h) (Or.inl ⟨by rfl, ?hy6⟩) (by assumption) ?_
                      case hy6 => (intro w_ hSw; (try dsimp only at hSw); go_simp; try (with_reducible rfl))
                      (try simp only [Act.put, List.setIfInBounds_toArray, List.set_cons_zero, List.set_cons_succ])
                      refine wpAnyH_take (i := 8) (oi := { dst := some 93, op := Op.move (Operand.tmp 1), type := 50, pos := "more.go:26", after := #[], guard := none }) (v := ?_) rfl (by kernel_rfl) (by kernel_rfl) (by kernel_rfl) (fun _ _ _ h => h) (Or.inl ⟨by rfl, ?hy8⟩) (by assumption) ?_
                      case hy8 => (intro w_ hSw; (try dsimp only at hSw); go_simp; try (with_reducible rfl))
                      (try simp only [Act.put, List.setIfInBounds_toArray, List.set_cons_zero, List.set_cons_succ])
                      refine wpAnyH_take (i := 9) (oi := { dst := some 94, op := Op.move (Operand.tmp 15), type := 3, pos := "more.go:26", after := #[], guard := none }) (v := ?_) rfl (by kernel_rfl) (by kernel_rfl) (by kernel_rfl) (fun _ _ _ h => h) (Or.inl ⟨by rfl, ?hy9⟩) (by assumption) ?_
                      case hy9 => (intro w_ hSw; (try dsimp only at hSw); go_simp; try (with_reducible rfl))
                      (try simp only [Act.put, List.setIfInBounds_toArray, List.set_cons_zero, List.set_cons_succ])
                      refine wpAnyH_take (i := 10) (oi := { dst := some 95, op := Op.indexAddr 50 (Operand.tmp 93) (Operand.tmp 94), type := 0, pos := "more.go:26", after := #[{ on := 8, ground := Ground.data }, { on := 9, ground := Ground.data }], guard := none }) (v := ?_) rfl (by kernel_rfl) (by kernel_rfl) (by kernel_rfl) (fun _ _ _ h => h) (Or.inl ⟨by rfl, ?hy10⟩) (by assumption) ?_
                      case hy10 => (intro w_ hSw; (try dsimp only at hSw); go_simp; try (with_reducible rfl))
                      (try simp only [Act.put, List.setIfInBounds_toArray, List.set_cons_zero, List.set_cons_succ])
                      refine wpAnyH_take (i := 11) (oi := { dst := some 96, op := Op.fieldAddr 51 (Operand.tmp 95) 2, type := 0, pos := "more.go:26", after := #[{ on := 10, ground := Ground.data }], guard := none }) (v := ?_) rfl (by kernel_rfl) (by kernel_rfl) (by kernel_rfl) (fun _ _ _ h => h) (Or.inl ⟨by rfl, ?hy11⟩) (by assumption) ?_
                      case hy11 => (intro w_ hSw; (try dsimp only at hSw); go_simp; try (with_reducible rfl))
                      (try simp only [Act.put, List.setIfInBounds_toArray, List.set_cons_zero, List.set_cons_succ])
                      refine wpAnyH_take (i := 12) (oi := { dst := some 97, op := Op.load 3 (Operand.tmp 96), type := 3, pos := "more.go:26", after := #[{ on := 11, ground := Ground.data }], guard := none }) (v := ?_) rfl (by kernel_rfl) (by kernel_rfl) (by kernel_rfl) (fun _ _ _ h => h) (Or.inl ⟨by rfl, ?hy12⟩) (by assumption) ?_
                      case hy12 => (intro w_ hSw; (try dsimp only at hSw); go_simp; try (with_reducible rfl))
                      (try simp only [Act.put, List.setIfInBounds_toArray, List.set_cons_zero, List.set_cons_succ])
                      refine wpAnyH_take (i := 13) (oi := { dst := some 98, op := Op.move (Operand.tmp 10), type := 3, pos := "more.go:26", after := #[], guard := none }) (v := ?_) rfl (by kernel_rfl) (by kernel_rfl) (by kernel_rfl) (fun _ _ _ h => h) (Or.inl ⟨by rfl, ?hy13⟩) (by assumption) ?_
                      case hy13 => (intro w_ hSw; (try dsimp only at hSw); go_simp; try (with_reducible rfl))
                      (try simp only [Act.put, List.setIfInBounds_toArray, List.set_cons_zero, List.set_cons_succ])
                      refine wpAnyH_ready (rs := [7]) (by kernel_rfl) (by simp) ?_
                      refine AllReadyH.cons (o := { dst := some 92, op := Op.call { callee := Callee.value (Operand.func 29), args := #[Operand.tmp 90, Operand.tmp 91], argTypes := #[3, 3] }, type := 3, pos := "more.go:26", after := #[{ on := 5, ground := Ground.data }, { on := 6, ground := Ground.data }], guard := none }) rfl (fun K_ hK => ?_) AllReadyH.nil
                      go_simp
                      (go_at_call 29; (with_reducible refine (pick10_calls _ HWX.out.1 HWX.out.2 hn0).mono ?_); rw [HPX.out.1]; rintro e w' ⟨rfl, hw'⟩; have hw' := hw'.symm; subst hw')
                      first | refine hK.out _ _ ?kp7 (fun hHeld => ?_) | (go_wp2_with fail; refine hK.out _ _ ?kp7 (fun hHeld => ?_))
                      case kp7 => exact (by assumption)
                      clear hK K_
                      (try simp only [Act.put, List.setIfInBounds_toArray, List.set_cons_zero, List.set_cons_succ])
                      refine wpAnyH_ready (rs := [14]) (by kernel_rfl) (by simp) ?_
                      refine AllReadyH.cons (o := { dst := some 99, op := Op.call { callee := Callee.value (Operand.func 29), args := #[Operand.tmp 97, Operand.tmp 98], argTypes := #[3, 3] }, type := 3, pos := "more.go:26", after := #[{ on := 12, ground := Ground.data }, { on := 13, ground := Ground.data }, { on := 7, ground := Ground.chain }], guard := none }) rfl (fun K_ hK => ?_) AllReadyH.nil
                      go_simp
                      (go_at_call 29; (with_reducible refine (pick10_calls _ HWY.out.1 HWY.out.2 hn0).mono ?_); rw [HPY.out.1]; rintro e w' ⟨rfl, hw'⟩; have hw' := hw'.symm; subst hw')
                      first | refine hK.out _ _ ?kp14 (fun hHeld => ?_) | (go_wp2_with fail; refine hK.out _ _ ?kp14 (fun hHeld => ?_))
                      case kp14 => exact (by assumption)
                      clear hK K_
                      (try simp only [Act.put, List.setIfInBounds_toArray, List.set_cons_zero, List.set_cons_succ])
                      refine wpAnyH_ready (rs := [15]) (by kernel_rfl) (by simp) ?_
                      refine AllReadyH.cons (o := { dst := some 100, op := Op.call { callee := Callee.value (Operand.func 30), args := #[Operand.tmp 85, Operand.tmp 92, Operand.tmp 99], argTypes := #[45, 3, 3] }, type := 27, pos := "more.go:26", after := #[{ on := 0, ground := Ground.data }, { on := 7, ground := Ground.data }, { on := 14, ground := Ground.data }, { on := 14, ground := Ground.chain }], guard := none }) rfl (fun K_ hK => ?_) AllReadyH.nil
                      go_simp
                      (go_at_call 30; (with_reducible refine (link_any HT5.out HPX.out.2.1 HPX.out.2.2 HPY.out.2.1 HPY.out.2.2).mono ?_); rintro e w3 ⟨rr, up3, rfl, hT, hK⟩; have HT6 := Aside0.mk hT; have HR6 := Aside0.mk (HR5.out.kt hK HGV.out); have hS6 : w3.cell? ⟨(a.add (q * 4)).block, (a.add (q * 4)).off + 1, none⟩ = some (.int .i64 xx) ∧ w3.cell? ⟨(a.add (q * 4)).block, (a.add (q * 4)).off + 2, none⟩ = some (.int .i64 yy) := (HCELL.out _ hT.old).2; clear hT hK)
                      first | refine hK.out _ _ ?kp15 (fun hHeld => ?_) | (go_wp2_with fail; refine hK.out _ _ ?kp15 (fun hHeld => ?_))
                      case kp15 => exact (by assumption)
                      clear hK K_
                      (try simp only [Act.put, List.setIfInBounds_toArray, List.set_cons_zero, List.set_cons_succ])
                      refine wpAnyH_done (by kernel_rfl) ?_ _
                      go_wp2
                      go_roundg (l.length - q)
                      case measure => exact HK4.out.2.2
                      case rel => exact ⟨q + 1, _, by first | rfl | exact congrArg (Value.int .i64) HWQ.out, ⟨⟨HK4.out.1, HK4.out.2.1⟩⟩, HT6, HR6⟩
                · as_aux_lemma =>
                    have HPO := Aside0.mk ho
                    clear ho
                    go_wp2_with (first
                      | (go_at_call 29; (with_reducible refine (pick10_calls _ HWX.out.1 HWX.out.2 hn0).mono ?_); rw [HPX.out.1]; rintro e w' ⟨rfl, hw'⟩; have hw' := hw'.symm; subst hw')
                      | (go_at_call 29; (with_reducible refine (pick10_calls _ HWO.out.1 HWO.out.2 (by decide)).mono ?_); rw [HPO.out]; rintro e w' ⟨rfl, hw'⟩; have hw' := hw'.symm; subst hw')
                      | (go_at_call 35; (with_reducible refine (evert_any HT.out HPX.out.2.1 HPX.out.2.2).mono ?_); rintro e w3 ⟨rr, up3, rfl, hT, hK⟩; have HT3 := Aside0.mk hT; have HR3 := Aside0.mk (HRW.out.kt hK HGV.out); clear hT hK))
                    go_roundg (l.length - q)
                    case measure => exact HK4.out.2.2
                    case rel => exact ⟨q + 1, _, by first | rfl | exact congrArg (Value.int .i64) HWQ.out, ⟨⟨HK4.out.1, HK4.out.2.1⟩⟩, HT3, HR3⟩
            · as_aux_lemma =>
                have hlt : ((q : Int) < (l.length : Int)) = False := eq_false (fun h => c6 (Int.ofNat_lt.1 h))
                obtain ⟨P, hP⟩ := HT.out.ok (x : Int) HPV.out.2.1 (by rw [HD.out]; exact HPV.out.2.2)
                have HP := Aside0.mk hP
                obtain ⟨L, hL⟩ : ∃ L, P.length = L := ⟨_, rfl⟩
                have HL := Aside0.mk hL
                have HLN : Aside0 (L ≤ j) := ⟨by rw [← hL]; exact hP.len HD.out⟩
                clear hP hL
                go_wp2_with (first
                  | (go_at_call 29; (with_reducible refine (pick10_calls _ HXV.out.1 HXV.out.2 hn0).mono ?_); rw [HPV.out.1]; rintro e w' ⟨rfl, hw'⟩; have hw' := hw'.symm; subst hw')
                  | (go_at_call 34; (with_reducible refine (path_calls HT.out HP.out).mono ?_); rw [HL.out]; rintro e w4 ⟨g, c4, rfl, hc, hm4, hg, hrow, hT, hK⟩; have HR4 := Aside0.mk hrow; have HFG := Aside0.mk (HT.out.far hg); have HT4 := Aside0.mk hT; have HW4 := Aside0.mk (HRW.out.kt hK HGV.out); have hLc : (L : Int) ≤ (c4 : Int) := Int.ofNat_le.2 hc; clear hT hK hrow hg hc hm4)
                  | (go_at_call 37; (with_reducible refine (tleast_calls HT4.out HP.out).mono ?_); rintro e w5 ⟨⟨y, rfl, hy⟩, hT, hK⟩; have HY := Aside0.mk hy; have HR5 := Aside0.mk (HR4.out.kt hK HFG.out.kt); have HT5 := Aside0.mk hT; have HW5b := Aside0.mk (HW4.out.kt hK HGV.out); clear hT hK hy))
                have HKK : Aside0 (P.reverse.Nodup ∧ P.reverse.length = L) := ⟨⟨(List.reverse_perm _).nodup_iff.2 HP.out.nodup, by rw [List.length_reverse]; exact HL.out⟩⟩
                obtain ⟨kl, hkl1, hkl2⟩ := least_facts HY.out
                have HE : Aside0 (∀ i : Nat, i < L → ∃ u : Nat, P.reverse[i]? = some (u : Int) ∧ u < j) := ⟨fun i hi => by
                  have hi2 : i < P.reverse.length := by rw [HKK.out.2]; exact hi
                  have h1_ := HP.out.rng (P.reverse[i]) (List.mem_reverse.1 (List.getElem_mem hi2))
                  rw [HD.out] at h1_
                  obtain ⟨u, hu⟩ := Int.eq_ofNat_of_zero_le h1_.1
                  rw [hu] at h1_
                  exact ⟨u, by rw [List.getElem?_eq_getElem hi2, hu], Int.ofNat_lt.1 h1_.2⟩⟩
                have HKLL : Aside0 (kl < L) := ⟨by rw [← HKK.out.2]; exact (List.getElem?_eq_some_iff.1 hkl1).1⟩
                obtain ⟨yn, hyn1, hyn2⟩ := HE.out kl HKLL.out
                have hye : y = (yn : Int) := Option.some.inj (hkl1.symm.trans hyn1)
                subst hye
                have HYN : Aside0 (yn < j) := ⟨hyn2⟩
                have HK1 := Aside0.mk hkl1
                have HK2 := Aside0.mk hkl2
                clear hkl1 hkl2 hyn1 hyn2 hlt HT HRW HT4 HW4 HR4 HK
                obtain ⟨K, hK⟩ : ∃ K, P.reverse = K := ⟨_, rfl⟩
                have HKP := Aside0.mk hK
                rw [hK] at HKK HE HK1 HK2 HR5
                clear hK
                go_loopg [19, 20] (L + 1) (fun kq v19 v20 wq => ∃ (i : Nat), v19 = .int .i64 (kOf kl i) ∧ v20 = .int .i64 (i : Int) ∧ Aside0 (i + kq = L + 1 ∧ 0 < kq) ∧ Aside0 (Tm D w wq up val) ∧ Aside0 (RowC wq gv vs) ∧ Aside0 (RowC wq g K))
                case atStart => exact ⟨0, congrArg (Value.int .i64) (kOf_lo (Nat.zero_le kl)).symm, rfl, ⟨by omega⟩, HT5, HW5b, HR5⟩
                case round =>
                  clear HT5 HW5b HR5
                  obtain ⟨i, rfl, rfl, HK3, HT, HW, HRR⟩ := hrel
                  by_cases ci : i < L
                  · have hiL : (i : Int) < (L : Int) := Int.ofNat_lt.2 ci
                    have hlt2 : ((i : Int) < (L : Int)) = True := eq_true hiL
                    have hi0 : (0 : Int) ≤ (i : Int) := Int.natCast_nonneg i
                    obtain ⟨u, hu1, hu2⟩ := HE.out i ci
                    have hcu := HRR.out.get hu1
                    have HWI : Aside0 (wrap64 ((i : Int) + 1) = (i : Int) + 1) := ⟨by have h_ := HLN.out; have h2_ := HN.out; exact w64s (by omega) (by omega)⟩
                    have HI3 : Aside0 (i + 1 + (L - i) = L + 1 ∧ 0 < L - i ∧ L - i < gk) := ⟨by have h_ := HK3.out; omega⟩
                    by_cases cik : i = kl
                    · as_aux_lemma =>
                        subst cik
                        have huy : (u : Int) = (yn : Int) := Option.some.inj (hu1.symm.trans HK1.out)
                        rw [huy] at hcu
                        have hk1 : kOf i i = -1 := kOf_lo (Nat.le_refl i)
                        have hk3 : ((-1 : Int) < 0) = True := eq_true (by decide)
                        clear huy hu1 hu2
                        go_wp2
                        go_roundg (L - i)
                        case measure => exact HI3.out.2.2
                        case rel => exact ⟨i + 1, congrArg (Value.int .i64) (kOf_hi (Nat.lt_succ_self i)).symm, by first | rfl | exact congrArg (Value.int .i64) HWI.out, ⟨⟨HI3.out.1, HI3.out.2.1⟩⟩, HT, HW, HRR⟩
                    · as_aux_lemma =>
                        have hb : ((u : Int) == (yn : Int)) = false := beq_eq_false_iff_ne.mpr (fun e => cik (at_once HKK.out.1 (e ▸ hu1) HK1.out))
                        have HKX := Aside0.mk (kOf_next cik)
                        obtain ⟨kk, hkk⟩ : ∃ z, kOf kl i = z := ⟨_, rfl⟩
                        rw [hkk]
                        have HKZ := Aside0.mk hkk
                        clear hu1 hu2 hkk cik
                        go_wp2
                        go_roundg (L - i)
                        case measure => exact HI3.out.2.2
                        case rel => exact ⟨i + 1, congrArg (Value.int .i64) (HKX.out.trans HKZ.out).symm, by first | rfl | exact congrArg (Value.int .i64) HWI.out, ⟨⟨HI3.out.1, HI3.out.2.1⟩⟩, HT, HW, HRR⟩
                  · as_aux_lemma =>
                      have hlt2 : ((i : Int) < (L : Int)) = False := eq_false (fun h => ci (Int.ofNat_lt.1 h))
                      have hiL : i = L := by have h_ := HK3.out; omega
                      subst hiL
                      rw [kOf_hi HKLL.out]
                      have hk0 : ((kl : Int) < 0) = False := eq_false (Int.not_lt.2 (Int.natCast_nonneg kl))
                      have hk00 : decide ((kl : Int) < 0) = false := decide_eq_false (Int.not_lt.2 (Int.natCast_nonneg kl))
                      have hk01 : (0 : Int) ≤ (kl : Int) := Int.natCast_nonneg kl
                      go_wp2
                      clear hlt2 hk0 hk00 HK3
                      go_loopg [21] (i + 1) (fun kq v21 wq => ∃ (t : Nat), v21 = .int .i64 (t : Int) ∧ Aside0 (t + kq = i + 1 ∧ 0 < kq) ∧ Aside0 (Tm D w wq up val) ∧ Aside0 (RowC wq gv vs) ∧ Aside0 (RowC wq g K))
                      case atStart => exact ⟨0, rfl, ⟨by omega⟩, HT, HW, HRR⟩
                      case round =>
                        clear HT HW HRR
                        obtain ⟨t, rfl, HK3, HT, HW, HRR⟩ := hrel
                        by_cases ct : t < i
                        · have hti : (t : Int) < (i : Int) := Int.ofNat_lt.2 ct
                          have hlt2 : ((t : Int) < (i : Int)) = True := eq_true hti
                          have ht0 : (0 : Int) ≤ (t : Int) := Int.natCast_nonneg t
                          obtain ⟨u, hu1, hu2⟩ := HE.out t ct
                          have HWI : Aside0 (wrap64 ((t : Int) + 1) = (t : Int) + 1) := ⟨by have h_ := HLN.out; have h2_ := HN.out; exact w64s (by omega) (by omega)⟩
                          have HI3 : Aside0 (t + 1 + (i - t) = i + 1 ∧ 0 < i - t ∧ i - t < gk) := ⟨by have h_ := HK3.out; omega⟩
                          have hva := HK2.out t (u : Int) hu1
                          have hv1 : (val (u : Int) < val (yn : Int)) = False := eq_false (Int.not_lt.2 hva.1)
                          have hv2 : decide (val (u : Int) < val (yn : Int)) = false := decide_eq_false (Int.not_lt.2 hva.1)
                          have hv3 : val (yn : Int) ≤ val (u : Int) := hva.1
                          have hu0 : (0 : Int) ≤ (u : Int) := Int.natCast_nonneg u
                          have huj : (u : Int) < (j : Int) := Int.ofNat_lt.2 hu2
                          have hy0 : (0 : Int) ≤ (yn : Int) := Int.natCast_nonneg yn
                          have hyj : (yn : Int) < (j : Int) := Int.ofNat_lt.2 HYN.out
                          have hS5 : wr.cell? ⟨g, t, none⟩ = some (.int .i64 (u : Int)) ∧ wr.cell? ⟨gv, u, none⟩ = some (.int .i64 (val (u : Int))) ∧ wr.cell? ⟨gv, yn, none⟩ = some (.int .i64 (val (yn : Int))) := ⟨HRR.out.get hu1, HW.out.get (HWA.out u hu2), HW.out.get (HWA.out yn HYN.out)⟩
                          by_cases ctk : t < kl
                          · as_aux_lemma =>
                              have hkk : ((t : Int) < (kl : Int)) = True := eq_true (Int.ofNat_lt.2 ctk)
                              have hkk2 : (t : Int) < (kl : Int) := Int.ofNat_lt.2 ctk
                              have hve : (val (u : Int) == val (yn : Int)) = false := beq_eq_false_iff_ne.mpr (fun e => Nat.not_lt.2 (hva.2 e) ctk)
                              clear hva ctk hu1
                              go_wp2
                              refine wp_region_held_drew (S := (fun W_ => W_.cell? ⟨g, t, none⟩ = some (.int .i64 (u : Int)) ∧ W_.cell? ⟨gv, u, none⟩ = some (.int .i64 (val (u : Int))) ∧ W_.cell? ⟨gv, yn, none⟩ = some (.int .i64 (val (yn : Int))))) (by kernel_rfl) (show _ from hS5) (fun hHeld => ?_)
                              refine wpAnyH_take (i := 0) (oi := { dst := some 135, op := Op.move (Operand.tmp 11), type := 24, pos := "more.go:44", after := #[], guard := none }) (v := ?_) rfl (by kernel_rfl) (by kernel_rfl) (by kernel_rfl) (fun _ _ _ h => h) (Or.inl ⟨by rfl, ?hy0⟩) (by assumption) ?_
                              case hy0 => (intro w_ hSw; (try dsimp only at hSw); go_simp; try (with_reducible rfl))
                              (try simp only [Act.put, List.setIfInBounds_toArray, List.set_cons_zero, List.set_cons_succ])
                              refine wpAnyH_take (i := 1) (oi := { dst := some 136, op := Op.move (Operand.tmp 17), type := 22, pos := "more.go:44", after := #[], guard := none }) (v := ?_) rfl (by kernel_rfl) (by kernel_rfl) (by kernel_rfl) (fun _ _ _ h => h) (Or.inl ⟨by rfl, ?hy1⟩) (by assumption) ?_
                              case hy1 => (intro w_ hSw; (try dsimp only at hSw); go_simp; try (with_reducible rfl))
                              (try simp only [Act.put, List.setIfInBounds_toArray, List.set_cons_zero, List.set_cons_succ])
                              refine wpAnyH_take (i := 2) (oi := { dst := some 137, op := Op.move (Operand.tmp 21), type := 3, pos := "more.go:44", after := #[], guard := none }) (v := ?_) rfl (by kernel_rfl) (by kernel_rfl) (by kernel_rfl) (fun _ _ _ h => h) (Or.inl ⟨by rfl, ?hy2⟩) (by assumption) ?_
                              case hy2 => (intro w_ hSw; (try dsimp only at hSw); go_simp; try (with_reducible rfl))
                              (try simp only [Act.put, List.setIfInBounds_toArray, List.set_cons_zero, List.set_cons_succ])
                              refine wpAnyH_take (i := 3) (oi := { dst := some 138, op := Op.indexAddr 22 (Operand.tmp 136) (Operand.tmp 137), type := 0, pos := "more.go:44", after := #[{ on := 1, ground := Ground.data }, { on := 2, ground := Ground.data }], guard := none }) (v := ?_) rfl (by kernel_rfl) (by kernel_rfl) (by kernel_rfl) (fun _ _ _ h => h) (Or.inl ⟨by rfl, ?hy3⟩) (by assumption) ?_
                              case hy3 => (intro w_ hSw; (try dsimp only at hSw); go_simp; try (with_reducible rfl))
                              (try simp only [Act.put, List.setIfInBounds_toArray, List.set_cons_zero, List.set_cons_succ])
                              refine wpAnyH_take (i := 4) (oi := { dst := some 139, op := Op.load 3 (Operand.tmp 138), type := 3, pos := "more.go:44", after := #[{ on := 3, ground := Ground.data }], guard := none }) (v := ?_) rfl (by kernel_rfl) (by kernel_rfl) (by kernel_rfl) (fun _ _ _ h => h) (Or.inl ⟨by rfl, ?hy4⟩) (by assumption) ?_
                              case hy4 => (intro w_ hSw; (try dsimp only at hSw); go_simp; try (with_reducible rfl))
                              (try simp only [Act.put, List.setIfInBounds_toArray, List.set_cons_zero, List.set_cons_succ])
                              refine wpAnyH_take (i := 5) (oi := { dst := some 140, op := Op.indexAddr 24 (Operand.tmp 135) (Operand.tmp 139), type := 0, pos := "more.go:44", after := #[{ on := 0, ground := Ground.data }, { on := 4, ground := Ground.data }], guard := none }) (v := ?_) rfl (by kernel_rfl) (by kernel_rfl) (by kernel_rfl) (fun _ _ _ h => h) (Or.inl ⟨by rfl, ?hy5⟩) (by assumption) ?_
                              case hy5 => (intro w_ hSw; (try dsimp only at hSw); go_simp; try (with_reducible rfl))
                              (try simp only [Act.put, List.setIfInBounds_toArray, List.set_cons_zero, List.set_cons_succ])
                              refine wpAnyH_take (i := 6) (oi := { dst := some 141, op := Op.load 2 (Operand.tmp 140), type := 2, pos := "more.go:44", after := #[{ on := 5, ground := Ground.data }], guard := none }) (v := ?_) rfl (by kernel_rfl) (by kernel_rfl) (by kernel_rfl) (fun _ _ _ h => h) (Or.inl ⟨by rfl, ?hy6⟩) (by assumption) ?_
                              case hy6 => (intro w_ hSw; (try dsimp only at hSw); go_simp; try (with_reducible rfl))
                              (try simp only [Act.put, List.setIfInBounds_toArray, List.set_cons_zero, List.set_cons_succ])
                              refine wpAnyH_take (i := 7) (oi := { dst := some 142, op := Op.move (Operand.tmp 11), type := 24, pos := "more.go:44", after := #[], guard := none }) (v := ?_) rfl (by kernel_rfl) (by kernel_rfl) (by kernel_rfl) (fun _ _ _ h => h) (Or.inl ⟨by rfl, ?hy7⟩) (by assumption) ?_
                              case hy7 => (intro w_ hSw; (try dsimp only at hSw); go_simp; try (with_reducible rfl))
                              (try simp only [Act.put, List.setIfInBounds_toArray, List.set_cons_zero, List.set_cons_succ])
                              refine wpAnyH_take (i := 8) (oi := { dst := some 143, op := Op.move (Operand.tmp 18), type := 3, pos := "more.go:44", after := #[], guard := none }) (v := ?_) rfl (by kernel_rfl) (by kernel_rfl) (by kernel_rfl) (fun _ _ _ h => h) (Or.inl ⟨by rfl, ?hy8⟩) (by assumption) ?_
                              case hy8 => (intro w_ hSw; (try dsimp only at hSw); go_simp; try (with_reducible rfl))
                              (try simp only [Act.put, List.setIfInBounds_toArray, List.set_cons_zero, List.set_cons_succ])
                              refine wpAnyH_take (i := 9) (oi := { dst := some 144, op := Op.indexAddr 24 (Operand.tmp 142) (Operand.tmp 143), type := 0, pos := "more.go:44", after := #[{ on := 7, ground := Ground.data }, { on := 8, ground := Ground.data }], guard := none }) (v := ?_) rfl (by kernel_rfl) (by kernel_rfl) (by kernel_rfl) (fun _ _ _ h => h) (Or.inl ⟨by rfl, ?hy9⟩) (by assumption) ?_
                              case hy9 => (intro w_ hSw; (try dsimp only at hSw); go_simp; try (with_reducible rfl))
                              (try simp only [Act.put, List.setIfInBounds_toArray, List.set_cons_zero, List.set_cons_succ])
                              refine wpAnyH_take (i := 10) (oi := { dst := some 145, op := Op.load 2 (Operand.tmp 144), type := 2, pos := "more.go:44", after := #[{ on := 9, ground := Ground.data }], guard := none }) (v := ?_) rfl (by kernel_rfl) (by kernel_rfl) (by kernel_rfl) (fun _ _ _ h => h) (Or.inl ⟨by rfl, ?hy10⟩) (by assumption) ?_
                              case hy10 => (intro w_ hSw; (try dsimp only at hSw); go_simp; try (with_reducible rfl))
                              (try simp only [Act.put, List.setIfInBounds_toArray, List.set_cons_zero, List.set_cons_succ])
                              refine wpAnyH_take (i := 11) (oi := { dst := some 146, op := Op.binOp BinOp.lss 2 (Operand.tmp 141) (Operand.tmp 145) 2, type := 4, pos := "more.go:44", after := #[{ on := 6, ground := Ground.data }, { on := 10, ground := Ground.data }], guard := none }) (v := ?_) rfl (by kernel_rfl) (by kernel_rfl) (by kernel_rfl) (fun _ _ _ h => h) (Or.inl ⟨by rfl, ?hy11⟩) (by assumption) ?_
                              case hy11 => (intro w_ hSw; (try dsimp only at hSw); go_simp; try (with_reducible rfl))
                              (try simp only [Act.put, List.setIfInBounds_toArray, List.set_cons_zero, List.set_cons_succ])
                              refine wpAnyH_take (i := 12) (oi := { dst := some 147, op := Op.move (Operand.tmp 146), type := 4, pos := "more.go:44", after := #[{ on := 11, ground := Ground.data }], guard := none }) (v := ?_) rfl (by kernel_rfl) (by kernel_rfl) (by kernel_rfl) (fun _ _ _ h => h) (Or.inl ⟨by rfl, ?hy12⟩) (by assumption) ?_
                              case hy12 => (intro w_ hSw; (try dsimp only at hSw); go_simp; try (with_reducible rfl))
                              (try simp only [Act.put, List.setIfInBounds_toArray, List.set_cons_zero, List.set_cons_succ])
                              refine wpAnyH_take (i := 13) (oi := { dst := some 148, op := Op.move (Operand.tmp 21), type := 3, pos := "more.go:44", after := #[{ on := 12, ground := Ground.guard }], guard := some (12, false) }) (v := ?_) rfl (by kernel_rfl) (by kernel_rfl) (by kernel_rfl) (fun _ _ _ h => h) (Or.inl ⟨by rfl, ?hy13⟩) (by assumption) ?_
                              case hy13 => (intro w_ hSw; (try dsimp only at hSw); go_simp; try (with_reducible rfl))
                              (try simp only [Act.put, List.setIfInBounds_toArray, List.set_cons_zero, List.set_cons_succ])
                              refine wpAnyH_take (i := 14) (oi := { dst := some 149, op := Op.move (Operand.tmp 19), type := 3, pos := "more.go:44", after := #[{ on := 12, ground := Ground.guard }], guard := some (12, false) }) (v := ?_) rfl (by kernel_rfl) (by kernel_rfl) (by kernel_rfl) (fun _ _ _ h => h) (Or.inl ⟨by rfl, ?hy14⟩) (by assumption) ?_
                              case hy14 => (intro w_ hSw; (try dsimp only at hSw); go_simp; try (with_reducible rfl))
                              (try simp only [Act.put, List.setIfInBounds_toArray, List.set_cons_zero, List.set_cons_succ])
                              refine wpAnyH_take (i := 15) (oi := { dst := some 150, op := Op.binOp BinOp.lss 3 (Operand.tmp 148) (Operand.tmp 149) 3, type := 4, pos := "more.go:44", after := #[{ on := 13, ground := Ground.data }, { on := 14, ground := Ground.data }, { on := 12, ground := Ground.guard }], guard := some (12, false) }) (v := ?_) rfl (by kernel_rfl) (by kernel_rfl) (by kernel_rfl) (fun _ _ _ h => h) (Or.inl ⟨by rfl, ?hy15⟩) (by assumption) ?_
                              case hy15 => (intro w_ hSw; (try dsimp only at hSw); go_simp; try (with_reducible rfl))
                              (try simp only [Act.put, List.setIfInBounds_toArray, List.set_cons_zero, List.set_cons_succ])
                              refine wpAnyH_take (i := 16) (oi := { dst := some 151, op := Op.move (Operand.tmp 150), type := 4, pos := "more.go:44", after := #[{ on := 15, ground := Ground.data }, { on := 12, ground := Ground.chain }, { on := 12, ground := Ground.guard }], guard := some (12, false) }) (v := ?_) rfl (by kernel_rfl) (by kernel_rfl) (by kernel_rfl) (fun _ _ _ h => h) (Or.inl ⟨by rfl, ?hy16⟩) (by assumption) ?_
                              case hy16 => (intro w_ hSw; (try dsimp only at hSw); go_simp; try (with_reducible rfl))
                              (try simp only [Act.put, List.setIfInBounds_toArray, List.set_cons_zero, List.set_cons_succ])
                              refine wpAnyH_take (i := 17) (oi := { dst := some 152, op := Op.move (Operand.tmp 11), type := 24, pos := "more.go:44", after := #[{ on := 16, ground := Ground.guard }], guard := some (16, true) }) (v := ?_) rfl (by kernel_rfl) (by kernel_rfl) (by kernel_rfl) (fun _ _ _ h => h) (Or.inl ⟨by rfl, ?hy17⟩) (by assumption) ?_
                              case hy17 => (intro w_ hSw; (try dsimp only at hSw); go_simp; try (with_reducible rfl))
                              (try simp only [Act.put, List.setIfInBounds_toArray, List.set_cons_zero, List.set_cons_succ])
                              refine wpAnyH_take (i := 18) (oi := { dst := some 153, op := Op.move (Operand.tmp 17), type := 22, pos := "more.go:44", after := #[{ on := 16, ground := Ground.guard }], guard := some (16, true) }) (v := ?_) rfl (by kernel_rfl) (by kernel_rfl) (by kernel_rfl) (fun _ _ _ h => h) (Or.inl ⟨by rfl, ?hy18⟩) (by assumption) ?_
                              case hy18 => (intro w_ hSw; (try dsimp only at hSw); go_simp; try (with_reducible rfl))
                              (try simp only [Act.put, List.setIfInBounds_toArray, List.set_cons_zero, List.set_cons_succ])
                              refine wpAnyH_take (i := 19) (oi := { dst := some 154, op := Op.move (Operand.tmp 21), type := 3, pos := "more.go:44", after := #[{ on := 16, ground := Ground.guard }], guard := some (16, true) }) (v := ?_) rfl (by kernel_rfl) (by kernel_rfl) (by kernel_rfl) (fun _ _ _ h => h) (Or.inl ⟨by rfl, ?hy19⟩) (by assumption) ?_
                              case hy19 => (intro w_ hSw; (try dsimp only at hSw); go_simp; try (with_reducible rfl))
                              (try simp only [Act.put, List.setIfInBounds_toArray, List.set_cons_zero, List.set_cons_succ])
                              refine wpAnyH_take (i := 20) (oi := { dst := some 155, op := Op.indexAddr 22 (Operand.tmp 153) (Operand.tmp 154), type := 0, pos := "more.go:44", after := #[{ on := 18, ground := Ground.data }, { on := 19, ground := Ground.data }, { on := 16, ground := Ground.guard }], guard := some (16, true) }) (v := ?_) rfl (by kernel_rfl) (by kernel_rfl) (by kernel_rfl) (fun _ _ _ h => h) (Or.inl ⟨by rfl, ?hy20⟩) (by assumption) ?_
                              case hy20 => (intro w_ hSw; (try dsimp only at hSw); go_simp; try (with_reducible rfl))
                              (try simp only [Act.put, List.setIfInBounds_toArray, List.set_cons_zero, List.set_cons_succ])
                              refine wpAnyH_take (i := 21) (oi := { dst := some 156, op := Op.load 3 (Operand.tmp 155), type := 3, pos := "more.go:44", after := #[{ on := 20, ground := Ground.data }, { on := 16, ground := Ground.guard }], guard := some (16, true) }) (v := ?_) rfl (by kernel_rfl) (by kernel_rfl) (by kernel_rfl) (fun _ _ _ h => h) (Or.inl ⟨by rfl, ?hy21⟩) (by assumption) ?_
                              case hy21 => (intro w_ hSw; (try dsimp only at hSw); go_simp; try (with_reducible rfl))
                              (try simp only [Act.put, List.setIfInBounds_toArray, List.set_cons_zero, List.set_cons_succ])
                              refine wpAnyH_take (i := 22) (oi := { dst := some 157, op := Op.indexAddr 24 (Operand.tmp 152) (Operand.tmp 156), type := 0, pos := "more.go:44", after := #[{ on := 17, ground := Ground.data }, { on := 21, ground := Ground.data }, { on := 16, ground := Ground.guard }], guard := some (16, true) }) (v := ?_) rfl (by kernel_rfl) (by kernel_rfl) (by kernel_rfl) (fun _ _ _ h => h) (Or.inl ⟨by rfl, ?hy22⟩) (by assumption) ?_
                              case hy22 => (intro w_ hSw; (try dsimp only at hSw); go_simp; try (with_reducible rfl))
                              (try simp only [Act.put, List.setIfInBounds_toArray, List.set_cons_zero, List.set_cons_succ])
                              refine wpAnyH_take (i := 23) (oi := { dst := some 158, op := Op.load 2 (Operand.tmp 157), type := 2, pos := "more.go:44", after := #[{ on := 22, ground := Ground.data }, { on := 16, ground := Ground.guard }], guard := some (16, true) }) (v := ?_) rfl (by kernel_rfl) (by kernel_rfl) (by kernel_rfl) (fun _ _ _ h => h) (Or.inl ⟨by rfl, ?hy23⟩) (by assumption) ?_
                              case hy23 => (intro w_ hSw; (try dsimp only at hSw); go_simp; try (with_reducible rfl))
                              (try simp only [Act.put, List.setIfInBounds_toArray, List.set_cons_zero, List.set_cons_succ])
                              refine wpAnyH_take (i := 24) (oi := { dst := some 159, op := Op.move (Operand.tmp 11), type := 24, pos := "more.go:44", after := #[{ on := 16, ground := Ground.guard }], guard := some (16, true) }) (v := ?_) rfl (by kernel_rfl) (by kernel_rfl) (by kernel_rfl) (fun _ _ _ h => h) (Or.inl ⟨by rfl, ?hy24⟩) (by assumption) ?_
                              case hy24 => (intro w_ hSw; (try dsimp only at hSw); go_simp; try (with_reducible rfl))
                              (try simp only [Act.put, List.setIfInBounds_toArray, List.set_cons_zero, List.set_cons_succ])
                              refine wpAnyH_take (i := 25) (oi := { dst := some 160, op := Op.move (Operand.tmp 18), type := 3, pos := "more.go:44", after := #[{ on := 16, ground := Ground.guard }], guard := some (16, true) }) (v := ?_) rfl (by kernel_rfl) (by kernel_rfl) (by kernel_rfl) (fun _ _ _ h => h) (Or.inl ⟨by rfl, ?hy25⟩) (by assumption) ?_
                              case hy25 => (intro w_ hSw; (try dsimp only at hSw); go_simp; try (with_reducible rfl))
                              (try simp only [Act.put, List.setIfInBounds_toArray, List.set_cons_zero, List.set_cons_succ])
                              refine wpAnyH_take (i := 26) (oi := { dst := some 161, op := Op.indexAddr 24 (Operand.tmp 159) (Operand.tmp 160), type := 0, pos := "more.go:44", after := #[{ on := 24, ground := Ground.data }, { on := 25, ground := Ground.data }, { on := 16, ground := Ground.guard }], guard := some (16, true) }) (v := ?_) rfl (by kernel_rfl) (by kernel_rfl) (by kernel_rfl) (fun _ _ _ h => h) (Or.inl ⟨by rfl, ?hy26⟩) (by assumption) ?_
                              case hy26 => (intro w_ hSw; (try dsimp only at hSw); go_simp; try (with_reducible rfl))
                              (try simp only [Act.put, List.setIfInBounds_toArray, List.set_cons_zero, List.set_cons_succ])
                              refine wpAnyH_take (i := 27) (oi := { dst := some 162, op := Op.load 2 (Operand.tmp 161), type := 2, pos := "more.go:44", after := #[{ on := 26, ground := Ground.data }, { on := 16, ground := Ground.guard }], guard := some (16, true) }) (v := ?_) rfl (by kernel_rfl) (by kernel_rfl) (by kernel_rfl) (fun _ _ _ h => h) (Or.inl ⟨by rfl, ?hy27⟩) (by assumption) ?_
                              case hy27 => (intro w_ hSw; (try dsimp only at hSw); go_simp; try (with_reducible rfl))
                              (try simp only [Act.put, List.setIfInBounds_toArray, List.set_cons_zero, List.set_cons_succ])
                              refine wpAnyH_take (i := 28) (oi := { dst := some 163, op := Op.binOp BinOp.eql 2 (Operand.tmp 158) (Operand.tmp 162) 2, type := 4, pos := "more.go:44", after := #[{ on := 23, ground := Ground.data }, { on := 27, ground := Ground.data }, { on := 16, ground := Ground.guard }], guard := some (16, true) }) (v := ?_) rfl (by kernel_rfl) (by kernel_rfl) (by kernel_rfl) (fun _ _ _ h => h) (Or.inl ⟨by rfl, ?hy28⟩) (by assumption) ?_
                              case hy28 => (intro w_ hSw; (try dsimp only at hSw); go_simp; try (with_reducible rfl))
                              (try simp only [Act.put, List.setIfInBounds_toArray, List.set_cons_zero, List.set_cons_succ])
                              refine wpAnyH_take (i := 29) (oi := { dst := some 164, op := Op.pick (Operand.tmp 151) (Operand.tmp 163) (Operand.const (Value.bool false)), type := 4, pos := "more.go:44", after := #[{ on := 16, ground := Ground.data }, { on := 28, ground := Ground.data }, { on := 12, ground := Ground.guard }], guard := some (12, false) }) (v := ?_) rfl (by kernel_rfl) (by kernel_rfl) (by kernel_rfl) (fun _ _ _ h => h) (Or.inl ⟨by rfl, ?hy29⟩) (by assumption) ?_
                              case hy29 => (intro w_ hSw; (try dsimp only at hSw); go_simp; try (with_reducible rfl))
                              (try simp only [Act.put, List.setIfInBounds_toArray, List.set_cons_zero, List.set_cons_succ])
                              refine wpAnyH_take (i := 30) (oi := { dst := some 165, op := Op.pick (Operand.tmp 147) (Operand.const (Value.bool true)) (Operand.tmp 164), type := 4, pos := "more.go:44", after := #[{ on := 12, ground := Ground.data }, { on := 29, ground := Ground.data }], guard := none }) (v := ?_) rfl (by kernel_rfl) (by kernel_rfl) (by kernel_rfl) (fun _ _ _ h => h) (Or.inl ⟨by rfl, ?hy30⟩) (by assumption) ?_
                              case hy30 => (intro w_ hSw; (try dsimp only at hSw); go_simp; try (with_reducible rfl))
                              (try simp only [Act.put, List.setIfInBounds_toArray, List.set_cons_zero, List.set_cons_succ])
                              refine wpAnyH_done (by kernel_rfl) ?_ _
                              go_wp2
                              go_roundg (i - t)
                              case measure => exact HI3.out.2.2
                              case rel => exact ⟨t + 1, by first | rfl | exact congrArg (Value.int .i64) HWI.out, ⟨⟨HI3.out.1, HI3.out.2.1⟩⟩, ⟨HT.out.below (below_drew (Below.refl _ _))⟩, ⟨HW.out.below (below_drew (Below.refl _ _))⟩, ⟨HRR.out.below (below_drew (Below.refl _ _))⟩⟩
                          · as_aux_lemma =>
                              have hkk : ((t : Int) < (kl : Int)) = False := eq_false (fun h => ctk (Int.ofNat_lt.1 h))
                              have hkk1 : decide ((t : Int) < (kl : Int)) = false := decide_eq_false (fun h => ctk (Int.ofNat_lt.1 h))
                              have hkk2 : (kl : Int) ≤ (t : Int) := Int.not_lt.1 (fun h => ctk (Int.ofNat_lt.1 h))
                              clear hva ctk hu1
                              go_wp2
                              refine wp_region_held_drew (S := (fun W_ => W_.cell? ⟨g, t, none⟩ = some (.int .i64 (u : Int)) ∧ W_.cell? ⟨gv, u, none⟩ = some (.int .i64 (val (u : Int))) ∧ W_.cell? ⟨gv, yn, none⟩ = some (.int .i64 (val (yn : Int))))) (by kernel_rfl) (show _ from hS5) (fun hHeld => ?_)
                              refine wpAnyH_take (i := 0) (oi := { dst := some 135, op := Op.move (Operand.tmp 11), type := 24, pos := "more.go:44", after := #[], guard := none }) (v := ?_) rfl (by kernel_rfl) (by kernel_rfl) (by kernel_rfl) (fun _ _ _ h => h) (Or.inl ⟨by rfl, ?hy0⟩) (by assumption) ?_
                              case hy0 => (intro w_ hSw; (try dsimp only at hSw); go_simp; try (with_reducible rfl))
                              (try simp only [Act.put, List.setIfInBounds_toArray, List.set_cons_zero, List.set_cons_succ])
                              refine wpAnyH_take (i := 1) (oi := { dst := some 136, op := Op.move (Operand.tmp 17), type := 22, pos := "more.go:44", after := #[], guard := none }) (v := ?_) rfl (by kernel_rfl) (by kernel_rfl) (by kernel_rfl) (fun _ _ _ h => h) (Or.inl ⟨by rfl, ?hy1⟩) (by assumption) ?_
                              case hy1 => (intro w_ hSw; (try dsimp only at hSw); go_simp; try (with_reducible rfl))
                              (try simp only [Act.put, List.setIfInBounds_toArray, List.set_cons_zero, List.set_cons_succ])
                              refine wpAnyH_take (i := 2) (oi := { dst := some 137, op := Op.move (Operand.tmp 21), type := 3, pos := "more.go:44", after := #[], guard := none }) (v := ?_) rfl (by kernel_rfl) (by kernel_rfl) (by kernel_rfl) (fun _ _ _ h => h) (Or.inl ⟨by rfl, ?hy2⟩) (by assumption) ?_
                              case hy2 => (intro w_ hSw; (try dsimp only at hSw); go_simp; try (with_reducible rfl))
                              (try simp only [Act.put, List.setIfInBounds_toArray, List.set_cons_zero, List.set_cons_succ])
                              refine wpAnyH_take (i := 3) (oi := { dst := some 138, op := Op.indexAddr 22 (Operand.tmp 136) (Operand.tmp 137), type := 0, pos := "more.go:44", after := #[{ on := 1, ground := Ground.data }, { on := 2, ground := Ground.data }], guard := none }) (v := ?_) rfl (by kernel_rfl) (by kernel_rfl) (by kernel_rfl) (fun _ _ _ h => h) (Or.inl ⟨by rfl, ?hy3⟩) (by assumption) ?_
                              case hy3 => (intro w_ hSw; (try dsimp only at hSw); go_simp; try (with_reducible rfl))
                              (try simp only [Act.put, List.setIfInBounds_toArray, List.set_cons_zero, List.set_cons_succ])
                              refine wpAnyH_take (i := 4) (oi := { dst := some 139, op := Op.load 3 (Operand.tmp 138), type := 3, pos := "more.go:44", after := #[{ on := 3, ground := Ground.data }], guard := none }) (v := ?_) rfl (by kernel_rfl) (by kernel_rfl) (by kernel_rfl) (fun _ _ _ h => h) (Or.inl ⟨by rfl, ?hy4⟩) (by assumption) ?_
                              case hy4 => (intro w_ hSw; (try dsimp only at hSw); go_simp; try (with_reducible rfl))
                              (try simp only [Act.put, List.setIfInBounds_toArray, List.set_cons_zero, List.set_cons_succ])
                              refine wpAnyH_take (i := 5) (oi := { dst := some 140, op := Op.indexAddr 24 (Operand.tmp 135) (Operand.tmp 139), type := 0, pos := "more.go:44", after := #[{ on := 0, ground := Ground.data }, { on := 4, ground := Ground.data }], guard := none }) (v := ?_) rfl (by kernel_rfl) (by kernel_rfl) (by kernel_rfl) (fun _ _ _ h => h) (Or.inl ⟨by rfl, ?hy5⟩) (by assumption) ?_
                              case hy5 => (intro w_ hSw; (try dsimp only at hSw); go_simp; try (with_reducible rfl))
                              (try simp only [Act.put, List.setIfInBounds_toArray, List.set_cons_zero, List.set_cons_succ])
                              refine wpAnyH_take (i := 6) (oi := { dst := some 141, op := Op.load 2 (Operand.tmp 140), type := 2, pos := "more.go:44", after := #[{ on := 5, ground := Ground.data }], guard := none }) (v := ?_) rfl (by kernel_rfl) (by kernel_rfl) (by kernel_rfl) (fun _ _ _ h => h) (Or.inl ⟨by rfl, ?hy6⟩) (by assumption) ?_
                              case hy6 => (intro w_ hSw; (try dsimp only at hSw); go_simp; try (with_reducible rfl))
                              (try simp only [Act.put, List.setIfInBounds_toArray, List.set_cons_zero, List.set_cons_succ])
                              refine wpAnyH_take (i := 7) (oi := { dst := some 142, op := Op.move (Operand.tmp 11), type := 24, pos := "more.go:44", after := #[], guard := none }) (v := ?_) rfl (by kernel_rfl) (by kernel_rfl) (by kernel_rfl) (fun _ _ _ h => h) (Or.inl ⟨by rfl, ?hy7⟩) (by assumption) ?_
                              case hy7 => (intro w_ hSw; (try dsimp only at hSw); go_simp; try (with_reducible rfl))
                              (try simp only [Act.put, List.setIfInBounds_toArray, List.set_cons_zero, List.set_cons_succ])
                              refine wpAnyH_take (i := 8) (oi := { dst := some 143, op := Op.move (Operand.tmp 18), type := 3, pos := "more.go:44", after := #[], guard := none }) (v := ?_) rfl (by kernel_rfl) (by kernel_rfl) (by kernel_rfl) (fun _ _ _ h => h) (Or.inl ⟨by rfl, ?hy8⟩) (by assumption) ?_
                              case hy8 => (intro w_ hSw; (try dsimp only at hSw); go_simp; try (with_reducible rfl))
                              (try simp only [Act.put, List.setIfInBounds_toArray, List.set_cons_zero, List.set_cons_succ])
                              refine wpAnyH_take (i := 9) (oi := { dst := some 144, op := Op.indexAddr 24 (Operand.tmp 142) (Operand.tmp 143), type := 0, pos := "more.go:44", after := #[{ on := 7, ground := Ground.data }, { on := 8, ground := Ground.data }], guard := none }) (v := ?_) rfl (by kernel_rfl) (by kernel_rfl) (by kernel_rfl) (fun _ _ _ h => h) (Or.inl ⟨by rfl, ?hy9⟩) (by assumption) ?_
                              case hy9 => (intro w_ hSw; (try dsimp only at hSw); go_simp; try (with_reducible rfl))
                              (try simp only [Act.put, List.setIfInBounds_toArray, List.set_cons_zero, List.set_cons_succ])
                              refine wpAnyH_take (i := 10) (oi := { dst := some 145, op := Op.load 2 (Operand.tmp 144), type := 2, pos := "more.go:44", after := #[{ on := 9, ground := Ground.data }], guard := none }) (v := ?_) rfl (by kernel_rfl) (by kernel_rfl) (by kernel_rfl) (fun _ _ _ h => h) (Or.inl ⟨by rfl, ?hy10⟩) (by assumption) ?_
                              case hy10 => (intro w_ hSw; (try dsimp only at hSw); go_simp; try (with_reducible rfl))
                              (try simp only [Act.put, List.setIfInBounds_toArray, List.set_cons_zero, List.set_cons_succ])
                              refine wpAnyH_take (i := 11) (oi := { dst := some 146, op := Op.binOp BinOp.lss 2 (Operand.tmp 141) (Operand.tmp 145) 2, type := 4, pos := "more.go:44", after := #[{ on := 6, ground := Ground.data }, { on := 10, ground := Ground.data }], guard := none }) (v := ?_) rfl (by kernel_rfl) (by kernel_rfl) (by kernel_rfl) (fun _ _ _ h => h) (Or.inl ⟨by rfl, ?hy11⟩) (by assumption) ?_
                              case hy11 => (intro w_ hSw; (try dsimp only at hSw); go_simp; try (with_reducible rfl))
                              (try simp only [Act.put, List.setIfInBounds_toArray, List.set_cons_zero, List.set_cons_succ])
                              refine wpAnyH_take (i := 12) (oi := { dst := some 147, op := Op.move (Operand.tmp 146), type := 4, pos := "more.go:44", after := #[{ on := 11, ground := Ground.data }], guard := none }) (v := ?_) rfl (by kernel_rfl) (by kernel_rfl) (by kernel_rfl) (fun _ _ _ h => h) (Or.inl ⟨by rfl, ?hy12⟩) (by assumption) ?_
                              case hy12 => (intro w_ hSw; (try dsimp only at hSw); go_simp; try (with_reducible rfl))
                              (try simp only [Act.put, List.setIfInBounds_toArray, List.set_cons_zero, List.set_cons_succ])
                              refine wpAnyH_take (i := 13) (oi := { dst := some 148, op := Op.move (Operand.tmp 21), type := 3, pos := "more.go:44", after := #[{ on := 12, ground := Ground.guard }], guard := some (12, false) }) (v := ?_) rfl (by kernel_rfl) (by kernel_rfl) (by kernel_rfl) (fun _ _ _ h => h) (Or.inl ⟨by rfl, ?hy13⟩) (by assumption) ?_
                              case hy13 => (intro w_ hSw; (try dsimp only at hSw); go_simp; try (with_reducible rfl))
                              (try simp only [Act.put, List.setIfInBounds_toArray, List.set_cons_zero, List.set_cons_succ])
                              refine wpAnyH_take (i := 14) (oi := { dst := some 149, op := Op.move (Operand.tmp 19), type := 3, pos := "more.go:44", after := #[{ on := 12, ground := Ground.guard }], guard := some (12, false) }) (v := ?_) rfl (by kernel_rfl) (by kernel_rfl) (by kernel_rfl) (fun _ _ _ h => h) (Or.inl ⟨by rfl, ?hy14⟩) (by assumption) ?_
                              case hy14 => (intro w_ hSw; (try dsimp only at hSw); go_simp; try (with_reducible rfl))
                              (try simp only [Act.put, List.setIfInBounds_toArray, List.set_cons_zero, List.set_cons_succ])
                              refine wpAnyH_take (i := 15) (oi := { dst := some 150, op := Op.binOp BinOp.lss 3 (Operand.tmp 148) (Operand.tmp 149) 3, type := 4, pos := "more.go:44", after := #[{ on := 13, ground := Ground.data }, { on := 14, ground := Ground.data }, { on := 12, ground := Ground.guard }], guard := some (12, false) }) (v := ?_) rfl (by kernel_rfl) (by kernel_rfl) (by kernel_rfl) (fun _ _ _ h => h) (Or.inl ⟨by rfl, ?hy15⟩) (by assumption) ?_
                              case hy15 => (intro w_ hSw; (try dsimp only at hSw); go_simp; try (with_reducible rfl))
                              (try simp only [Act.put, List.setIfInBounds_toArray, List.set_cons_zero, List.set_cons_succ])
                              refine wpAnyH_take (i := 16) (oi := { dst := some 151, op := Op.move (Operand.tmp 150), type := 4, pos := "more.go:44", after := #[{ on := 15, ground := Ground.data }, { on := 12, ground := Ground.chain }, { on := 12, ground := Ground.guard }], guard := some (12, false) }) (v := ?_) rfl (by kernel_rfl) (by kernel_rfl) (by kernel_rfl) (fun _ _ _ h => h) (Or.inl ⟨by rfl, ?hy16⟩) (by assumption) ?_
                              case hy16 => (intro w_ hSw; (try dsimp only at hSw); go_simp; try (with_reducible rfl))
                              (try simp only [Act.put, List.setIfInBounds_toArray, List.set_cons_zero, List.set_cons_succ])
                              refine wpAnyH_take (i := 17) (oi := { dst := some 152, op := Op.move (Operand.tmp 11), type := 24, pos := "more.go:44", after := #[{ on := 16, ground := Ground.guard }], guard := some (16, true) }) (v := undef) rfl (by kernel_rfl) (by kernel_rfl) (by kernel_rfl) (fun _ _ _ h => h) (Or.inr ⟨by rfl, rfl⟩) (by assumption) ?_
                              (try simp only [Act.put, List.setIfInBounds_toArray, List.set_cons_zero, List.set_cons_succ])
                              refine wpAnyH_take (i := 18) (oi := { dst := some 153, op := Op.move (Operand.tmp 17), type := 22, pos := "more.go:44", after := #[{ on := 16, ground := Ground.guard }], guard := some (16, true) }) (v := undef) rfl (by kernel_rfl) (by kernel_rfl) (by kernel_rfl) (fun _ _ _ h => h) (Or.inr ⟨by rfl, rfl⟩) (by assumption) ?_
                              (try simp only [Act.put, List.setIfInBounds_toArray, List.set_cons_zero, List.set_cons_succ])
                              refine wpAnyH_take (i := 19) (oi := { dst := some 154, op := Op.move (Operand.tmp 21), type := 3, pos := "more.go:44", after := #[{ on := 16, ground := Ground.guard }], guard := some (16, true) }) (v := undef) rfl (by kernel_rfl) (by kernel_rfl) (by kernel_rfl) (fun _ _ _ h => h) (Or.inr ⟨by rfl, rfl⟩) (by assumption) ?_
                              (try simp only [Act.put, List.setIfInBounds_toArray, List.set_cons_zero, List.set_cons_succ])
                              refine wpAnyH_take (i := 20) (oi := { dst := some 155, op := Op.indexAddr 22 (Operand.tmp 153) (Operand.tmp 154), type := 0, pos := "more.go:44", after := #[{ on := 18, ground := Ground.data }, { on := 19, ground := Ground.data }, { on := 16, ground := Ground.guard }], guard := some (16, true) }) (v := undef) rfl (by kernel_rfl) (by kernel_rfl) (by kernel_rfl) (fun _ _ _ h => h) (Or.inr ⟨by rfl, rfl⟩) (by assumption) ?_
                              (try simp only [Act.put, List.setIfInBounds_toArray, List.set_cons_zero, List.set_cons_succ])
                              refine wpAnyH_take (i := 21) (oi := { dst := some 156, op := Op.load 3 (Operand.tmp 155), type := 3, pos := "more.go:44", after := #[{ on := 20, ground := Ground.data }, { on := 16, ground := Ground.guard }], guard := some (16, true) }) (v := undef) rfl (by kernel_rfl) (by kernel_rfl) (by kernel_rfl) (fun _ _ _ h => h) (Or.inr ⟨by rfl, rfl⟩) (by assumption) ?_
                              (try simp only [Act.put, List.setIfInBounds_toArray, List.set_cons_zero, List.set_cons_succ])
                              refine wpAnyH_take (i := 22) (oi := { dst := some 157, op := Op.indexAddr 24 (Operand.tmp 152) (Operand.tmp 156), type := 0, pos := "more.go:44", after := #[{ on := 17, ground := Ground.data }, { on := 21, ground := Ground.data }, { on := 16, ground := Ground.guard }], guard := some (16, true) }) (v := undef) rfl (by kernel_rfl) (by kernel_rfl) (by kernel_rfl) (fun _ _ _ h => h) (Or.inr ⟨by rfl, rfl⟩) (by assumption) ?_
                              (try simp only [Act.put, List.setIfInBounds_toArray, List.set_cons_zero, List.set_cons_succ])
                              refine wpAnyH_take (i := 23) (oi := { dst := some 158, op := Op.load 2 (Operand.tmp 157), type := 2, pos := "more.go:44", after := #[{ on := 22, ground := Ground.data }, { on := 16, ground := Ground.guard }], guard := some (16, true) }) (v := undef) rfl (by kernel_rfl) (by kernel_rfl) (by kernel_rfl) (fun _ _ _ h => h) (Or.inr ⟨by rfl, rfl⟩) (by assumption) ?_
                              (try simp only [Act.put, List.setIfInBounds_toArray, List.set_cons_zero, List.set_cons_succ])
                              refine wpAnyH_take (i := 24) (oi := { dst := some 159, op := Op.move (Operand.tmp 11), type := 24, pos := "more.go:44", after := #[{ on := 16, ground := Ground.guard }], guard := some (16, true) }) (v := undef) rfl (by kernel_rfl) (by kernel_rfl) (by kernel_rfl) (fun _ _ _ h => h) (Or.inr ⟨by rfl, rfl⟩) (by assumption) ?_
                              (try simp only [Act.put, List.setIfInBounds_toArray, List.set_cons_zero, List.set_cons_succ])
                              refine wpAnyH_take (i := 25) (oi := { dst := some 160, op := Op.move (Operand.tmp 18), type := 3, pos := "more.go:44", after := #[{ on := 16, ground := Ground.guard }], guard := some (16, true) }) (v := undef) rfl (by kernel_rfl) (by kernel_rfl) (by kernel_rfl) (fun _ _ _ h => h) (Or.inr ⟨by rfl, rfl⟩) (by assumption) ?_
                              (try simp only [Act.put, List.setIfInBounds_toArray, List.set_cons_zero, List.set_cons_succ])
                              refine wpAnyH_take (i := 26) (oi := { dst := some 161, op := Op.indexAddr 24 (Operand.tmp 159) (Operand.tmp 160), type := 0, pos := "more.go:44", after := #[{ on := 24, ground := Ground.data }, { on := 25, ground := Ground.data }, { on := 16, ground := Ground.guard }], guard := some (16, true) }) (v := undef) rfl (by kernel_rfl) (by kernel_rfl) (by kernel_rfl) (fun _ _ _ h => h) (Or.inr ⟨by rfl, rfl⟩) (by assumption) ?_
                              (try simp only [Act.put, List.setIfInBounds_toArray, List.set_cons_zero, List.set_cons_succ])
                              refine wpAnyH_take (i := 27) (oi := { dst := some 162, op := Op.load 2 (Operand.tmp 161), type := 2, pos := "more.go:44", after := #[{ on := 26, ground := Ground.data }, { on := 16, ground := Ground.guard }], guard := some (16, true) }) (v := undef) rfl (by kernel_rfl) (by kernel_rfl) (by kernel_rfl) (fun _ _ _ h => h) (Or.inr ⟨by rfl, rfl⟩) (by assumption) ?_
                              (try simp only [Act.put, List.setIfInBounds_toArray, List.set_cons_zero, List.set_cons_succ])
                              refine wpAnyH_take (i := 28) (oi := { dst := some 163, op := Op.binOp BinOp.eql 2 (Operand.tmp 158) (Operand.tmp 162) 2, type := 4, pos := "more.go:44", after := #[{ on := 23, ground := Ground.data }, { on := 27, ground := Ground.data }, { on := 16, ground := Ground.guard }], guard := some (16, true) }) (v := undef) rfl (by kernel_rfl) (by kernel_rfl) (by kernel_rfl) (fun _ _ _ h => h) (Or.inr ⟨by rfl, rfl⟩) (by assumption) ?_
                              (try simp only [Act.put, List.setIfInBounds_toArray, List.set_cons_zero, List.set_cons_succ])
                              refine wpAnyH_take (i := 29) (oi := { dst := some 164, op := Op.pick (Operand.tmp 151) (Operand.tmp 163) (Operand.const (Value.bool false)), type := 4, pos := "more.go:44", after := #[{ on := 16, ground := Ground.data }, { on := 28, ground := Ground.data }, { on := 12, ground := Ground.guard }], guard := some (12, false) }) (v := ?_) rfl (by kernel_rfl) (by kernel_rfl) (by kernel_rfl) (fun _ _ _ h => h) (Or.inl ⟨by rfl, ?hy29⟩) (by assumption) ?_
                              case hy29 => (intro w_ hSw; (try dsimp only at hSw); go_simp; try (with_reducible rfl))
                              (try simp only [Act.put, List.setIfInBounds_toArray, List.set_cons_zero, List.set_cons_succ])
                              refine wpAnyH_take (i := 30) (oi := { dst := some 165, op := Op.pick (Operand.tmp 147) (Operand.const (Value.bool true)) (Operand.tmp 164), type := 4, pos := "more.go:44", after := #[{ on := 12, ground := Ground.data }, { on := 29, ground := Ground.data }], guard := none }) (v := ?_) rfl (by kernel_rfl) (by kernel_rfl) (by kernel_rfl) (fun _ _ _ h => h) (Or.inl ⟨by rfl, ?hy30⟩) (by assumption) ?_
                              case hy30 => (intro w_ hSw; (try dsimp only at hSw); go_simp; try (with_reducible rfl))
                              (try simp only [Act.put, List.setIfInBounds_toArray, List.set_cons_zero, List.set_cons_succ])
                              refine wpAnyH_done (by kernel_rfl) ?_ _
                              go_wp2
                              go_roundg (i - t)
                              case measure => exact HI3.out.2.2
                              case rel => exact ⟨t + 1, by first | rfl | exact congrArg (Value.int .i64) HWI.out, ⟨⟨HI3.out.1, HI3.out.2.1⟩⟩, ⟨HT.out.below (below_drew (Below.refl _ _))⟩, ⟨HW.out.below (below_drew (Below.refl _ _))⟩, ⟨HRR.out.below (below_drew (Below.refl _ _))⟩⟩
                        · as_aux_lemma =>
                            have hlt2 : ((t : Int) < (i : Int)) = False := eq_false (fun h => ct (Int.ofNat_lt.1 h))
                            have hdd := HDD.out
                            go_wp2_with (go_at_call 38; (with_reducible refine (add_small HT.out HP.out HBD.out HDS.out).mono ?_); rintro e w6 ⟨rfl, hT, hK⟩; have HT6 := Aside0.mk hT; have HW6 := Aside0.mk (HW.out.kt hK HGV.out); have HR6 := Aside0.mk (HRR.out.kt hK HFG.out.kt); clear hT hK)
                            clear hlt2 hdd HK3 HT HW HRR ct
                            obtain ⟨val2, hval2⟩ : ∃ val2, shiftUp val P dd = val2 := ⟨_, rfl⟩
                            have HV2 := Aside0.mk hval2
                            rw [hval2] at HT6
                            clear hval2
                            go_loopg [23] (j + 1) (fun kq v23 wq => ∃ (t : Nat), v23 = .int .i64 (t : Int) ∧ Aside0 (t + kq = j + 1 ∧ 0 < kq) ∧ Aside0 (Tm D w wq up val2) ∧ Aside0 (RowC wq gv vs) ∧ Aside0 (RowC wq g K))
                            case atStart => exact ⟨0, rfl, ⟨by omega⟩, HT6, HW6, HR6⟩
                            case round =>
                              clear HT6 HW6 HR6
                              obtain ⟨t, rfl, HK3, HT, HW, HRR⟩ := hrel
                              by_cases ct : t < j
                              · as_aux_lemma =>
                                  have htj : (t : Int) < (j : Int) := Int.ofNat_lt.2 ct
                                  have hlt2 : ((t : Int) < (j : Int)) = True := eq_true htj
                                  have ht0 : (0 : Int) ≤ (t : Int) := Int.natCast_nonneg t
                                  have HWT : Aside0 (wrap64 ((t : Int) + 1) = (t : Int) + 1) := ⟨by have h2_ := HN.out; exact w64s (by omega) (by omega)⟩
                                  have HT3 : Aside0 (t + 1 + (j - t) = j + 1 ∧ 0 < j - t ∧ j - t < gk) := ⟨by have h_ := HK3.out; omega⟩
                                  have hct := HW.out.get (HWA.out t ct)
                                  have HB4 := Aside0.mk (HBD.out (t : Int))
                                  have HTN : Aside0 ((t : Int) < (D.N : Int)) := ⟨by rw [HD.out]; exact htj⟩
                                  go_wp2
                                  clear hlt2 hct
                                  go_loopg [24, 25] (i + 1) (fun kq v24 v25 wq => ∃ (f : Nat), v24 = .int .i64 (sumTo val K dd (t : Int) f) ∧ v25 = .int .i64 (f : Int) ∧ Aside0 (f + kq = i + 1 ∧ 0 < kq) ∧ Aside0 (Tm D w wq up val2) ∧ Aside0 (RowC wq gv vs) ∧ Aside0 (RowC wq g K))
                                  case atStart => exact ⟨0, congrArg (Value.int .i64) sum_0.symm, rfl, ⟨by omega⟩, HT, HW, HRR⟩
                                  case round =>
                                    clear HT HW HRR
                                    obtain ⟨f, rfl, rfl, HK4, HT, HW, HRR⟩ := hrel
                                    by_cases cf : f < i
                                    · have hfi : (f : Int) < (i : Int) := Int.ofNat_lt.2 cf
                                      have hlt2 : ((f : Int) < (i : Int)) = True := eq_true hfi
                                      have hf0 : (0 : Int) ≤ (f : Int) := Int.natCast_nonneg f
                                      obtain ⟨u, hu1, hu2⟩ := HE.out f cf
                                      have hcu := HRR.out.get hu1
                                      have HWI : Aside0 (wrap64 ((f : Int) + 1) = (f : Int) + 1) := ⟨by have h_ := HLN.out; have h2_ := HN.out; exact w64s (by omega) (by omega)⟩
                                      have HI3 : Aside0 (f + 1 + (i - f) = i + 1 ∧ 0 < i - f ∧ i - f < gk) := ⟨by have h_ := HK4.out; omega⟩
                                      by_cases cu : u = t
                                      · as_aux_lemma =>
                                          subst cu
                                          obtain ⟨hs1, hs2⟩ := sum_hit (val := val) (d := dd) HKK.out.1 hu1
                                          rw [hs1]
                                          have HS2 := Aside0.mk hs2
                                          have hwv : wrap64 (val (u : Int) + dd) = val (u : Int) + dd := by have h1_ := HB4.out; have h2_ := HDS.out; exact w64s (by omega) (by omega)
                                          have hdd := HDD.out
                                          clear hs1 hs2 hu1 hu2
                                          go_wp2
                                          go_roundg (i - f)
                                          case measure => exact HI3.out.2.2
                                          case rel => exact ⟨f + 1, by first | exact congrArg (Value.int .i64) HS2.out.symm | exact congrArg (Value.int .i64) (hwv.trans HS2.out.symm), by first | rfl | exact congrArg (Value.int .i64) HWI.out, ⟨⟨HI3.out.1, HI3.out.2.1⟩⟩, HT, HW, HRR⟩
                                      · as_aux_lemma =>
                                          have hcu2 : ¬ ((u : Int) = (t : Int)) := fun e => cu (Int.ofNat_inj.1 e)
                                          have hb : ((u : Int) == (t : Int)) = false := beq_eq_false_iff_ne.mpr hcu2
                                          have HS2 := Aside0.mk (sum_miss (val := val) (d := dd) hu1 hcu2)
                                          obtain ⟨vt, hvt⟩ : ∃ z, sumTo val K dd (t : Int) f = z := ⟨_, rfl⟩
                                          rw [hvt] at HS2 ⊢
                                          clear hu1 hu2 hcu2 cu hvt
                                          go_wp2
                                          go_roundg (i - f)
                                          case measure => exact HI3.out.2.2
                                          case rel => exact ⟨f + 1, congrArg (Value.int .i64) HS2.out.symm, by first | rfl | exact congrArg (Value.int .i64) HWI.out, ⟨⟨HI3.out.1, HI3.out.2.1⟩⟩, HT, HW, HRR⟩
                                    · as_aux_lemma =>
                                        have hlt2 : ((f : Int) < (i : Int)) = False := eq_false (fun h => cf (Int.ofNat_lt.1 h))
                                        have hfi : f = i := by have h_ := HK4.out; omega
                                        subst hfi
                                        have hs : sumTo val K dd (t : Int) f = val2 (t : Int) := by rw [← HV2.out, ← HKP.out]; exact sum_all HL.out
                                        rw [hs]
                                        obtain ⟨vt, hvt⟩ : ∃ z, val2 (t : Int) = z := ⟨_, rfl⟩
                                        rw [hvt]
                                        have HVT := Aside0.mk hvt
                                        clear hs hvt
                                        go_wp2_with (go_at_call 39; (with_reducible refine (tvalue_calls HT.out ht0 HTN.out).mono ?_); rw [HVT.out]; rintro e w6 ⟨rfl, hT, hK⟩; have HT6 := Aside0.mk hT; have HW6 := Aside0.mk (HW.out.kt hK HGV.out); have HR6 := Aside0.mk (HRR.out.kt hK HFG.out.kt); clear hT hK)
                                        go_roundg (j - t)
                                        case measure => exact HT3.out.2.2
                                        case rel => exact ⟨t + 1, by first | rfl | exact congrArg (Value.int .i64) HWT.out, ⟨⟨HT3.out.1, HT3.out.2.1⟩⟩, HT6, HW6, HR6⟩
                              · as_aux_lemma =>
                                  have hlt2 : ((t : Int) < (j : Int)) = False := eq_false (fun h => ct (Int.ofNat_lt.1 h))
                                  have HSU : Aside0 (∀ z, FirstLeast (P.reverse.map fun x => (x, val2 x)) z → z = (yn : Int)) := ⟨fun z hz => by
                                    rw [← HV2.out] at hz
                                    exact least_uniq (fun q_ hq_ => shift_on (List.mem_reverse.1 hq_)) HY.out hz⟩
                                  go_wp2_with (go_at_call 37; (with_reducible refine (tleast_calls HT.out HP.out).mono ?_); rintro e w6 ⟨⟨y2, rfl, hy⟩, hT, hK⟩; have hyy := HSU.out y2 hy; subst hyy; have HT6 := Aside0.mk hT; clear hT hK hy)
                                  go_ret
                                  exact ⟨rfl, HT6.out.old⟩
end Go.Proofs.YtcnmbgijehnchaaW.Splay
