/- splay: the item at a place; the least one (contracts by hand; printed by mkS12.py). -/
import Derived.Test.YtcnmbgijehnchaaS11
set_option linter.unusedVariables false
set_option linter.unusedSimpArgs false
namespace Go.Proofs.YtcnmbgijehnchaaW.Splay
open Go.RowKit Go.Proofs.YtcnmbgijehnchaaW.PrintWords Go.Proofs.YtcnmbgijehnchaaW.PrintLast Go.Proofs.YtcnmbgijehnchaaW.PrintMore Go.Proofs.YtcnmbgijehnchaaW.Mine
attribute [local go_sem] max2_int min2_int max_two min_two max_three min_three max_four min_four
set_option maxHeartbeats 8000000 in
set_option maxRecDepth 100000 in
theorem at_calls {w0 w W : World} {gs gn N cap : Nat} {s : Fo} {s' : Fo} {pl y : Int} (h : Pt w0 W gs gn N cap s w) (k : Nat) {i : Nat} (hi : i < N) (hs : atN k s (i : Int) pl = some (s', y)) :
    Calls Try.prog 22 #[.pointer (some ⟨gs, 0, none⟩), .int .i64 (i : Int), .int .i64 pl] w fun e w' => e = .returned (.int .i64 y) ∧ Pt w0 W gs gn N cap s' w' := by
  have HP0 := Aside0.mk h
  have i0 : (0 : Int) ≤ (i : Int) := Int.natCast_nonneg i
  have i1 : (i : Int) < (N : Int) := by omega
  unfold atN at hs
  obtain ⟨s1, h1, h2⟩ := bind_some' hs
  have g1 := h.st.good.splay hi h1
  obtain ⟨sz, hsz⟩ : ∃ sz, (s1 (i : Int)).size = sz := ⟨_, rfl⟩
  rw [hsz] at h2
  have H1 := Aside0.mk h1
  have HSZ := Aside0.mk hsz
  clear h hs h1 hsz
  by_cases c0 : pl < 0
  · rw [if_pos (.inl c0)] at h2
    obtain ⟨rfl, rfl⟩ := Prod.mk.inj (Option.some.inj h2)
    clear h2 g1
    go_enter Try.func22, Try.ntmps22
    go_wp2_with (first
      | (go_at_call 41; (with_reducible refine (there_in HP0.out.1 hi).mono ?_); rintro e w' ⟨rfl, rfl⟩)
      | (go_at_call 42; (with_reducible refine (splay_st k HP0.out hi H1.out).mono ?_); rintro e w5 ⟨⟨v, rfl⟩, hP⟩; have HP5 := Aside0.mk hP; clear hP; have hx5 := HP5.out.1.sp.sl; have g5 := HP5.out.1.sp.g3 hi; rw [HSZ.out] at g5))
    go_ret
    exact ⟨rfl, HP5.out⟩
  · have c1 : 0 ≤ pl := by omega
    by_cases c2 : sz ≤ pl
    · rw [if_pos (.inr c2)] at h2
      obtain ⟨rfl, rfl⟩ := Prod.mk.inj (Option.some.inj h2)
      clear h2 g1
      go_enter Try.func22, Try.ntmps22
      go_wp2_with (first
        | (go_at_call 41; (with_reducible refine (there_in HP0.out.1 hi).mono ?_); rintro e w' ⟨rfl, rfl⟩)
        | (go_at_call 42; (with_reducible refine (splay_st k HP0.out hi H1.out).mono ?_); rintro e w5 ⟨⟨v, rfl⟩, hP⟩; have HP5 := Aside0.mk hP; clear hP; have hx5 := HP5.out.1.sp.sl; have g5 := HP5.out.1.sp.g3 hi; rw [HSZ.out] at g5))
      go_ret
      exact ⟨rfl, HP5.out⟩
    · rw [if_neg (by omega)] at h2
      have c3 : pl < sz := by omega
      obtain ⟨⟨s2, y2⟩, h3, h4⟩ := bind_some' h2
      obtain ⟨s3, h5, h6⟩ := bind_some' h4
      obtain ⟨rfl, rfl⟩ := Prod.mk.inj (Option.some.inj h6)
      have HL0 := Aside0.mk h3
      have H5 := Aside0.mk h5
      clear h2 h3 h4 h5 h6 g1
      go_enter Try.func22, Try.ntmps22
      go_wp2_with (first
        | (go_at_call 41; (with_reducible refine (there_in HP0.out.1 hi).mono ?_); rintro e w' ⟨rfl, rfl⟩)
        | (go_at_call 42; (with_reducible refine (splay_st k HP0.out hi H1.out).mono ?_); rintro e w5 ⟨⟨v, rfl⟩, hP⟩; have HP5 := Aside0.mk hP; clear hP; have hx5 := HP5.out.1.sp.sl; have g5 := HP5.out.1.sp.g3 hi; rw [HSZ.out] at g5))
      clear hx5 g5
      go_loopg [1, 2] k (fun kq v1 v2 wr => ∃ (j : Nat) (p1 : Int) (s1 : Fo), v1 = .int .i64 (j : Int) ∧ v2 = .int .i64 p1 ∧ Aside0 (j < N) ∧ Aside0 (Pt w0 W gs gn N cap s1 wr) ∧ Aside0 (atLoop kq s1 (j : Int) p1 = some (s2, y2)))
      case atStart => exact ⟨i, pl, _, rfl, rfl, ⟨hi⟩, HP5, HL0⟩
      case round =>
        clear HP5 HL0 c0 c1 c2 c3
        obtain ⟨j, p1, s1, rfl, rfl, HJ, HP1, HL1⟩ := hrel
        have hj := HJ.out
        have j0 : (0 : Int) ≤ (j : Int) := Int.natCast_nonneg j
        have j1 : (j : Int) < (N : Int) := by omega
        obtain ⟨f, hf⟩ : ∃ f, gk = f + 1 := by
          cases gk with
          | zero => have := HL1.out; simp [atLoop] at this
          | succ f => exact ⟨f, rfl⟩
        have hL := HL1.out
        rw [hf, atLoop] at hL
        have HF := Aside0.mk hf
        have hx1 := HP1.out.1.sp.sl
        have gl := HP1.out.1.sp.g1 hj
        have gr : wr.cell? ⟨gn, j * 9 + 1 + 1, none⟩ = _ := HP1.out.1.sp.g2 hj
        obtain ⟨l, hl⟩ : ∃ l, (s1 (j : Int)).d0 = l := ⟨_, rfl⟩
        obtain ⟨r, hr⟩ : ∃ r, (s1 (j : Int)).d1 = r := ⟨_, rfl⟩
        have hIL := (HP1.out.1.good j hj).2.1
        have hIR := (HP1.out.1.good j hj).2.2
        rw [hl] at hL hIL gl
        rw [hr] at hL hIR gr
        clear hl hr HL1 hf
        rcases hIL with rfl | ⟨m, hm, rfl⟩
        · have n0 : ((-1 : Int) != -1) = false := rfl
          rw [if_pos rfl] at hL
          by_cases d0 : p1 < 0
          · rw [if_pos d0, if_pos rfl] at hL
            cases hL
          · rw [if_neg d0] at hL
            have d1 : 0 ≤ p1 := by omega
            by_cases d2 : p1 = 0
            · rw [if_pos d2] at hL
              obtain ⟨rfl, rfl⟩ := Prod.mk.inj (Option.some.inj hL)
              have d3 : (p1 == 0) = true := by simp [d2]
              clear hL hIR
              go_wp2_with (go_at_call 42; (with_reducible refine (splay_st k HP1.out hj H5.out).mono ?_); rintro e w6 ⟨⟨v, rfl⟩, hP⟩; have HP6 := Aside0.mk hP; clear hP)
              first | go_ret | (rw [Exit.noGoto_ret]; go_ret)
              exact ⟨rfl, HP6.out⟩
            · rw [if_neg d2] at hL
              have d3 : (p1 == 0) = false := beq_eq_false_iff_ne.mpr d2
              rcases hIR with rfl | ⟨m2, hm2, rfl⟩
              · rw [if_pos rfl] at hL
                cases hL
              · rw [if_neg (by omega)] at hL
                have HL2 := Aside0.mk hL
                clear hL
                go_wp2_with (go_at_call 46; (with_reducible refine (push_st HP1.out hm2).mono ?_); rintro e w6 ⟨⟨v, rfl⟩, hP⟩; have HP6 := Aside0.mk hP; clear hP)
                go_roundg f
                case measure => have h_ := HF.out; omega
                case rel => exact ⟨m2, _, _, rfl, by first | rfl | simp, ⟨hm2⟩, HP6, by simpa using HL2⟩
        · have n1 : ((m : Int) != -1) = true := bne_iff_ne.mpr (by omega)
          have n2 : ¬ ((m : Int) = -1) := by omega
          have m0 : (0 : Int) ≤ (m : Int) := Int.natCast_nonneg m
          have m1 : (m : Int) < (N : Int) := by omega
          have gm := HP1.out.1.sp.g3 hm
          obtain ⟨q, hq⟩ : ∃ q, (s1 (m : Int)).size = q := ⟨_, rfl⟩
          rw [if_neg n2, hq] at hL
          rw [hq] at gm
          clear hq
          by_cases d0 : p1 < q
          · rw [if_pos d0, if_neg n2] at hL
            have HL2 := Aside0.mk hL
            clear hL hIR
            go_wp2_with (go_at_call 46; (with_reducible refine (push_st HP1.out hm).mono ?_); rintro e w6 ⟨⟨v, rfl⟩, hP⟩; have HP6 := Aside0.mk hP; clear hP)
            go_roundg f
            case measure => have h_ := HF.out; omega
            case rel => exact ⟨m, _, _, rfl, rfl, ⟨hm⟩, HP6, HL2⟩
          · rw [if_neg d0] at hL
            have d1 : q ≤ p1 := by omega
            by_cases d2 : p1 = q
            · rw [if_pos d2] at hL
              obtain ⟨rfl, rfl⟩ := Prod.mk.inj (Option.some.inj hL)
              have d3 : (p1 == q) = true := by simp [d2]
              clear hL hIR
              go_wp2_with (go_at_call 42; (with_reducible refine (splay_st k HP1.out hj H5.out).mono ?_); rintro e w6 ⟨⟨v, rfl⟩, hP⟩; have HP6 := Aside0.mk hP; clear hP)
              first | go_ret | (rw [Exit.noGoto_ret]; go_ret)
              exact ⟨rfl, HP6.out⟩
            · rw [if_neg d2] at hL
              have d3 : (p1 == q) = false := beq_eq_false_iff_ne.mpr d2
              rcases hIR with rfl | ⟨m2, hm2, rfl⟩
              · rw [if_pos rfl] at hL
                cases hL
              · rw [if_neg (by omega)] at hL
                have HL2 := Aside0.mk hL
                clear hL
                go_wp2_with (go_at_call 46; (with_reducible refine (push_st HP1.out hm2).mono ?_); rintro e w6 ⟨⟨v, rfl⟩, hP⟩; have HP6 := Aside0.mk hP; clear hP)
                go_roundg f
                case measure => have h_ := HF.out; omega
                case rel => exact ⟨m2, _, _, rfl, by first | rfl | simp, ⟨hm2⟩, HP6, by simpa using HL2⟩
end Go.Proofs.YtcnmbgijehnchaaW.Splay
