/- splay: the least item; added to a row (contracts by hand; printed by mkS13.py). -/
import Derived.Test.YtcnmbgijehnchaaS12
set_option linter.unusedVariables false
set_option linter.unusedSimpArgs false
namespace Go.Proofs.YtcnmbgijehnchaaW.Splay
open Go.RowKit Go.Proofs.YtcnmbgijehnchaaW.PrintWords Go.Proofs.YtcnmbgijehnchaaW.PrintLast Go.Proofs.YtcnmbgijehnchaaW.PrintMore Go.Proofs.YtcnmbgijehnchaaW.Mine
attribute [local go_sem] max2_int min2_int max_two min_two max_three min_three max_four min_four
set_option maxHeartbeats 8000000 in
set_option maxRecDepth 100000 in
theorem least_calls {w0 w W : World} {gs gn N cap : Nat} {s : Fo} {s' : Fo} {y : Int} (h : Pt w0 W gs gn N cap s w) (k : Nat) {i : Nat} (hi : i < N) (hs : leastN k s (i : Int) = some (s', y)) :
    Calls Try.prog 16 #[.pointer (some ⟨gs, 0, none⟩), .int .i64 (i : Int)] w fun e w' => e = .returned (.int .i64 y) ∧ Pt w0 W gs gn N cap s' w' := by
  have HP0 := Aside0.mk h
  have i0 : (0 : Int) ≤ (i : Int) := Int.natCast_nonneg i
  have i1 : (i : Int) < (N : Int) := by omega
  unfold leastN at hs
  obtain ⟨s1, h1, h2⟩ := bind_some' hs
  obtain ⟨want, hw⟩ : ∃ want, (s1 (i : Int)).ls = want := ⟨_, rfl⟩
  rw [hw] at h2
  obtain ⟨⟨s2, y2⟩, h3, h4⟩ := bind_some' h2
  obtain ⟨s3, h5, h6⟩ := bind_some' h4
  obtain ⟨rfl, rfl⟩ := Prod.mk.inj (Option.some.inj h6)
  have H1 := Aside0.mk h1
  have HW := Aside0.mk hw
  have HL0 := Aside0.mk h3
  have H5 := Aside0.mk h5
  clear h hs h1 h2 h3 h4 h5 h6 hw
  go_enter Try.func16, Try.ntmps16
  go_wp2_with (first
    | (go_at_call 41; (with_reducible refine (there_in HP0.out.1 hi).mono ?_); rintro e w' ⟨rfl, rfl⟩)
    | (go_at_call 42; (with_reducible refine (splay_st k HP0.out hi H1.out).mono ?_); rintro e w5 ⟨⟨v, rfl⟩, hP⟩; have HP5 := Aside0.mk hP; clear hP; have hx5 := HP5.out.1.sp.sl; have g5 := HP5.out.1.sp.g5 hi; rw [HW.out] at g5))
  clear hx5 g5
  go_loopg [1, 6] k (fun kq v1 v6 wr => ∃ (j : Nat) (s1 : Fo), v1 = .int .i64 (j : Int) ∧ Aside0 (j < N) ∧ Aside0 (Pt w0 W gs gn N cap s1 wr) ∧ Aside0 (leastLoop want kq s1 (j : Int) = some (s2, y2)))
  case atStart => exact ⟨i, _, rfl, ⟨hi⟩, HP5, HL0⟩
  case round =>
    clear HP5 HL0
    obtain ⟨j, s1, rfl, HJ, HP1, HL1⟩ := hrel
    have hj := HJ.out
    have j0 : (0 : Int) ≤ (j : Int) := Int.natCast_nonneg j
    have j1 : (j : Int) < (N : Int) := by omega
    obtain ⟨f, hf⟩ : ∃ f, gk = f + 1 := by
      cases gk with
      | zero => have := HL1.out; simp [leastLoop] at this
      | succ f => exact ⟨f, rfl⟩
    have hL := HL1.out
    rw [hf, leastLoop] at hL
    have HF := Aside0.mk hf
    have hx1 := HP1.out.1.sp.sl
    have gl := HP1.out.1.sp.g1 hj
    have gr : wr.cell? ⟨gn, j * 9 + 1 + 1, none⟩ = _ := HP1.out.1.sp.g2 hj
    have gv := HP1.out.1.sp.g4 hj
    obtain ⟨l, hl⟩ : ∃ l, (s1 (j : Int)).d0 = l := ⟨_, rfl⟩
    obtain ⟨r, hr⟩ : ∃ r, (s1 (j : Int)).d1 = r := ⟨_, rfl⟩
    obtain ⟨vv, hv⟩ : ∃ vv, (s1 (j : Int)).v = vv := ⟨_, rfl⟩
    have hIL := (HP1.out.1.good j hj).2.1
    have hIR := (HP1.out.1.good j hj).2.2
    rw [hl] at hL hIL gl
    rw [hr] at hL hIR gr
    rw [hv] at hL gv
    clear hl hr hv HL1 hf
    rcases hIL with rfl | ⟨m, hm, rfl⟩
    · have n0 : ((-1 : Int) != -1) = false := rfl
      rw [if_neg (fun e => e.1 rfl)] at hL
      by_cases d2 : vv = want
      · rw [if_pos d2] at hL
        obtain ⟨rfl, rfl⟩ := Prod.mk.inj (Option.some.inj hL)
        have d3 : (vv == want) = true := by simp [d2]
        clear hL hIR d2
        go_wp2_with (go_at_call 42; (with_reducible refine (splay_st k HP1.out hj H5.out).mono ?_); rintro e w6 ⟨⟨v, rfl⟩, hP⟩; have HP6 := Aside0.mk hP; clear hP)
        first | go_ret | (rw [Exit.noGoto_ret]; go_ret)
        exact ⟨rfl, HP6.out⟩
      · rw [if_neg d2] at hL
        have d3 : (vv == want) = false := beq_eq_false_iff_ne.mpr d2
        rcases hIR with rfl | ⟨m2, hm2, rfl⟩
        · rw [if_pos rfl] at hL
          cases hL
        · rw [if_neg (by omega)] at hL
          have HL2 := Aside0.mk hL
          clear hL d2
          go_wp2_with (go_at_call 46; (with_reducible refine (push_st HP1.out hm2).mono ?_); rintro e w6 ⟨⟨v, rfl⟩, hP⟩; have HP6 := Aside0.mk hP; clear hP)
          go_roundg f
          case measure => have h_ := HF.out; omega
          case rel => exact ⟨m2, _, rfl, ⟨hm2⟩, HP6, HL2⟩
    · have n1 : ((m : Int) != -1) = true := bne_iff_ne.mpr (by omega)
      have n2 : (m : Int) ≠ -1 := by omega
      have m0 : (0 : Int) ≤ (m : Int) := Int.natCast_nonneg m
      have m1 : (m : Int) < (N : Int) := by omega
      have gm := HP1.out.1.sp.g5 hm
      obtain ⟨q, hq⟩ : ∃ q, (s1 (m : Int)).ls = q := ⟨_, rfl⟩
      rw [hq] at hL gm
      clear hq
      by_cases d0 : q = want
      · rw [if_pos ⟨n2, d0⟩] at hL
        have HL2 := Aside0.mk hL
        have d1 : (q == want) = true := by simp [d0]
        clear hL hIR d0
        go_wp2_with (go_at_call 46; (with_reducible refine (push_st HP1.out hm).mono ?_); rintro e w6 ⟨⟨v, rfl⟩, hP⟩; have HP6 := Aside0.mk hP; clear hP)
        go_roundg f
        case measure => have h_ := HF.out; omega
        case rel => exact ⟨m, _, rfl, ⟨hm⟩, HP6, HL2⟩
      · rw [if_neg (fun e => d0 e.2)] at hL
        have d1 : (q == want) = false := beq_eq_false_iff_ne.mpr d0
        by_cases d2 : vv = want
        · rw [if_pos d2] at hL
          obtain ⟨rfl, rfl⟩ := Prod.mk.inj (Option.some.inj hL)
          have d3 : (vv == want) = true := by simp [d2]
          clear hL hIR d2
          go_wp2_with (go_at_call 42; (with_reducible refine (splay_st k HP1.out hj H5.out).mono ?_); rintro e w6 ⟨⟨v, rfl⟩, hP⟩; have HP6 := Aside0.mk hP; clear hP)
          first | go_ret | (rw [Exit.noGoto_ret]; go_ret)
          exact ⟨rfl, HP6.out⟩
        · rw [if_neg d2] at hL
          have d3 : (vv == want) = false := beq_eq_false_iff_ne.mpr d2
          rcases hIR with rfl | ⟨m2, hm2, rfl⟩
          · rw [if_pos rfl] at hL
            cases hL
          · rw [if_neg (by omega)] at hL
            have HL2 := Aside0.mk hL
            clear hL d2
            go_wp2_with (go_at_call 46; (with_reducible refine (push_st HP1.out hm2).mono ?_); rintro e w6 ⟨⟨v, rfl⟩, hP⟩; have HP6 := Aside0.mk hP; clear hP)
            go_roundg f
            case measure => have h_ := HF.out; omega
            case rel => exact ⟨m2, _, rfl, ⟨hm2⟩, HP6, HL2⟩
set_option maxHeartbeats 8000000 in
set_option maxRecDepth 100000 in
theorem add_calls {w0 w W : World} {gs gn N cap : Nat} {s : Fo} {s' : Fo} {d r : Int} (h : Pt w0 W gs gn N cap s w) (k : Nat) {i : Nat} (hi : i < N) (hs : addN k s (i : Int) d = some (s', r)) :
    Calls Try.prog 26 #[.pointer (some ⟨gs, 0, none⟩), .int .i64 (i : Int), .int .i64 d] w fun e w' => e = .returned (.int .i64 r) ∧ Pt w0 W gs gn N cap s' w' := by
  have HP0 := Aside0.mk h
  have i0 : (0 : Int) ≤ (i : Int) := Int.natCast_nonneg i
  have i1 : (i : Int) < (N : Int) := by omega
  unfold addN at hs
  obtain ⟨s1, h1, h2⟩ := bind_some' hs
  have H1 := Aside0.mk h1
  have H2 := Aside0.mk h2
  obtain ⟨up, hup⟩ : ∃ z, (s1 (i : Int)).up = z := ⟨_, rfl⟩
  obtain ⟨d0, hd0⟩ : ∃ z, (s1 (i : Int)).d0 = z := ⟨_, rfl⟩
  obtain ⟨d1, hd1⟩ : ∃ z, (s1 (i : Int)).d1 = z := ⟨_, rfl⟩
  obtain ⟨sz, hsz⟩ : ∃ z, (s1 (i : Int)).size = z := ⟨_, rfl⟩
  obtain ⟨vv, hv⟩ : ∃ z, (s1 (i : Int)).v = z := ⟨_, rfl⟩
  obtain ⟨ls, hls⟩ : ∃ z, (s1 (i : Int)).ls = z := ⟨_, rfl⟩
  obtain ⟨ms, hms⟩ : ∃ z, (s1 (i : Int)).ms = z := ⟨_, rfl⟩
  obtain ⟨a, ha⟩ : ∃ z, (s1 (i : Int)).a = z := ⟨_, rfl⟩
  obtain ⟨tn, htn⟩ : ∃ z, (s1 (i : Int)).tn = z := ⟨_, rfl⟩
  have HA := Aside0.mk (And.intro hup (And.intro hd0 (And.intro hd1 (And.intro hsz (And.intro hv (And.intro hls (And.intro hms (And.intro ha htn))))))))
  clear h hs h1 h2 hup hd0 hd1 hsz hv hls hms ha htn
  have hu58 := Try.underlying58
  have hu60 := Try.underlying60
  have h2 := H2.out
  rw [HA.out.2.2.2.2.2.1, HA.out.2.2.2.2.2.2.1] at h2
  by_cases c0 : 0 ≤ d
  · have c1 : ¬ d < 0 := by omega
    by_cases c2 : ms > wrap64 (4611686018427387904 - d)
    · rw [if_pos (.inl ⟨c0, c2⟩)] at h2
      obtain ⟨rfl, rfl⟩ := Prod.mk.inj (Option.some.inj h2)
      have c3 : wrap64 (4611686018427387904 - d) < ms := c2
      clear h2 H2
      go_enter Try.func26, Try.ntmps26
      go_wp2_with (first
        | (go_at_call 41; (with_reducible refine (there_in HP0.out.1 hi).mono ?_); rintro e w' ⟨rfl, rfl⟩)
        | (go_at_call 42; (with_reducible refine (splay_st k HP0.out hi H1.out).mono ?_); rintro e w5 ⟨⟨v, rfl⟩, hP⟩; have HP5 := Aside0.mk hP; clear hP; have hx5 := HP5.out.1.sp.sl; obtain ⟨e0, e1, e2, e3, e4, e5, e6, e7, e8⟩ := HA.out; have k0 := HP5.out.1.sp.g0 hi; have k1 := HP5.out.1.sp.g1 hi; have k2 := HP5.out.1.sp.g2 hi; have k3 := HP5.out.1.sp.g3 hi; have k4 := HP5.out.1.sp.g4 hi; have k5 := HP5.out.1.sp.g5 hi; have k6 := HP5.out.1.sp.g6 hi; have k7 := HP5.out.1.sp.g7 hi; have k8 := HP5.out.1.sp.g8 hi; rw [e0] at k0; rw [e1] at k1; rw [e2] at k2; rw [e3] at k3; rw [e4] at k4; rw [e5] at k5; rw [e6] at k6; rw [e7] at k7; rw [e8] at k8; clear e0 e1 e2 e3 e4 e5 e6 e7 e8; have HP6 := HP5.out.below (below_alloc (Below.refl _ _) (.cells #[.int .i64 up, .int .i64 d0, .int .i64 d1, .int .i64 sz, .int .i64 vv, .int .i64 ls, .int .i64 ms, .int .i64 a, .bool tn] 60)); have HP7 := Aside0.mk HP6; clear HP6))
      go_ret
      exact ⟨rfl, HP7.out⟩
    · rw [if_neg (fun e => e.elim (fun e => c2 e.2) (fun e => c1 e.1))] at h2
      obtain ⟨rfl, rfl⟩ := Prod.mk.inj (Option.some.inj h2)
      have c3 : ms ≤ wrap64 (4611686018427387904 - d) := by omega
      clear h2 H2
      go_enter Try.func26, Try.ntmps26
      go_wp2_with (first
        | (go_at_call 41; (with_reducible refine (there_in HP0.out.1 hi).mono ?_); rintro e w' ⟨rfl, rfl⟩)
        | (go_at_call 42; (with_reducible refine (splay_st k HP0.out hi H1.out).mono ?_); rintro e w5 ⟨⟨v, rfl⟩, hP⟩; have HP5 := Aside0.mk hP; clear hP; have hx5 := HP5.out.1.sp.sl; obtain ⟨e0, e1, e2, e3, e4, e5, e6, e7, e8⟩ := HA.out; have k0 := HP5.out.1.sp.g0 hi; have k1 := HP5.out.1.sp.g1 hi; have k2 := HP5.out.1.sp.g2 hi; have k3 := HP5.out.1.sp.g3 hi; have k4 := HP5.out.1.sp.g4 hi; have k5 := HP5.out.1.sp.g5 hi; have k6 := HP5.out.1.sp.g6 hi; have k7 := HP5.out.1.sp.g7 hi; have k8 := HP5.out.1.sp.g8 hi; rw [e0] at k0; rw [e1] at k1; rw [e2] at k2; rw [e3] at k3; rw [e4] at k4; rw [e5] at k5; rw [e6] at k6; rw [e7] at k7; rw [e8] at k8; clear e0 e1 e2 e3 e4 e5 e6 e7 e8; have HP6 := HP5.out.below (below_alloc (Below.refl _ _) (.cells #[.int .i64 up, .int .i64 d0, .int .i64 d1, .int .i64 sz, .int .i64 vv, .int .i64 ls, .int .i64 ms, .int .i64 a, .bool tn] 60)); have HP7 := Aside0.mk HP6; clear HP6)
        | (go_at_call 47; (with_reducible refine (lay_st HP7.out (Ix.nat hi) d false).mono ?_); rintro e w8 ⟨⟨v, rfl⟩, hP⟩; have HP8 := Aside0.mk hP; clear hP))
      go_ret
      exact ⟨rfl, HP8.out⟩
  · have c1 : d < 0 := by omega
    by_cases c2 : ls < wrap64 (-4611686018427387904 - d)
    · rw [if_pos (.inr ⟨c1, c2⟩)] at h2
      obtain ⟨rfl, rfl⟩ := Prod.mk.inj (Option.some.inj h2)
      clear h2 H2
      go_enter Try.func26, Try.ntmps26
      go_wp2_with (first
        | (go_at_call 41; (with_reducible refine (there_in HP0.out.1 hi).mono ?_); rintro e w' ⟨rfl, rfl⟩)
        | (go_at_call 42; (with_reducible refine (splay_st k HP0.out hi H1.out).mono ?_); rintro e w5 ⟨⟨v, rfl⟩, hP⟩; have HP5 := Aside0.mk hP; clear hP; have hx5 := HP5.out.1.sp.sl; obtain ⟨e0, e1, e2, e3, e4, e5, e6, e7, e8⟩ := HA.out; have k0 := HP5.out.1.sp.g0 hi; have k1 := HP5.out.1.sp.g1 hi; have k2 := HP5.out.1.sp.g2 hi; have k3 := HP5.out.1.sp.g3 hi; have k4 := HP5.out.1.sp.g4 hi; have k5 := HP5.out.1.sp.g5 hi; have k6 := HP5.out.1.sp.g6 hi; have k7 := HP5.out.1.sp.g7 hi; have k8 := HP5.out.1.sp.g8 hi; rw [e0] at k0; rw [e1] at k1; rw [e2] at k2; rw [e3] at k3; rw [e4] at k4; rw [e5] at k5; rw [e6] at k6; rw [e7] at k7; rw [e8] at k8; clear e0 e1 e2 e3 e4 e5 e6 e7 e8; have HP6 := HP5.out.below (below_alloc (Below.refl _ _) (.cells #[.int .i64 up, .int .i64 d0, .int .i64 d1, .int .i64 sz, .int .i64 vv, .int .i64 ls, .int .i64 ms, .int .i64 a, .bool tn] 60)); have HP7 := Aside0.mk HP6; clear HP6))
      go_ret
      exact ⟨rfl, HP7.out⟩
    · rw [if_neg (fun e => e.elim (fun e => c0 e.1) (fun e => c2 e.2))] at h2
      obtain ⟨rfl, rfl⟩ := Prod.mk.inj (Option.some.inj h2)
      have c3 : wrap64 (-4611686018427387904 - d) ≤ ls := by omega
      clear h2 H2
      go_enter Try.func26, Try.ntmps26
      go_wp2_with (first
        | (go_at_call 41; (with_reducible refine (there_in HP0.out.1 hi).mono ?_); rintro e w' ⟨rfl, rfl⟩)
        | (go_at_call 42; (with_reducible refine (splay_st k HP0.out hi H1.out).mono ?_); rintro e w5 ⟨⟨v, rfl⟩, hP⟩; have HP5 := Aside0.mk hP; clear hP; have hx5 := HP5.out.1.sp.sl; obtain ⟨e0, e1, e2, e3, e4, e5, e6, e7, e8⟩ := HA.out; have k0 := HP5.out.1.sp.g0 hi; have k1 := HP5.out.1.sp.g1 hi; have k2 := HP5.out.1.sp.g2 hi; have k3 := HP5.out.1.sp.g3 hi; have k4 := HP5.out.1.sp.g4 hi; have k5 := HP5.out.1.sp.g5 hi; have k6 := HP5.out.1.sp.g6 hi; have k7 := HP5.out.1.sp.g7 hi; have k8 := HP5.out.1.sp.g8 hi; rw [e0] at k0; rw [e1] at k1; rw [e2] at k2; rw [e3] at k3; rw [e4] at k4; rw [e5] at k5; rw [e6] at k6; rw [e7] at k7; rw [e8] at k8; clear e0 e1 e2 e3 e4 e5 e6 e7 e8; have HP6 := HP5.out.below (below_alloc (Below.refl _ _) (.cells #[.int .i64 up, .int .i64 d0, .int .i64 d1, .int .i64 sz, .int .i64 vv, .int .i64 ls, .int .i64 ms, .int .i64 a, .bool tn] 60)); have HP7 := Aside0.mk HP6; clear HP6)
        | (go_at_call 47; (with_reducible refine (lay_st HP7.out (Ix.nat hi) d false).mono ?_); rintro e w8 ⟨⟨v, rfl⟩, hP⟩; have HP8 := Aside0.mk hP; clear hP))
      go_ret
      exact ⟨rfl, HP8.out⟩
end Go.Proofs.YtcnmbgijehnchaaW.Splay
