/- splay: two rows joined; added to a row (contracts by hand; printed by mkS11.py). -/
import Derived.Test.YtcnmbgijehnchaaS10
set_option linter.unusedVariables false
set_option linter.unusedSimpArgs false
namespace Go.Proofs.YtcnmbgijehnchaaW.Splay
open Go.RowKit Go.Proofs.YtcnmbgijehnchaaW.PrintWords Go.Proofs.YtcnmbgijehnchaaW.PrintLast Go.Proofs.YtcnmbgijehnchaaW.PrintMore Go.Proofs.YtcnmbgijehnchaaW.Mine
attribute [local go_sem] max2_int min2_int max_two min_two max_three min_three max_four min_four
theorem Good.end_loop {N : Nat} {sd : Int} (hsd : sd = 0 ∨ sd = 1) : ∀ (k : Nat) {s s' : Fo} {i : Nat} {y : Int}, Good N s → i < N → endLoop sd k s (i : Int) = some (s', y) → Good N s' ∧ ∃ j : Nat, j < N ∧ y = (j : Int)
  | 0, s, s', i, y, _, _, hs => by simp [endLoop] at hs
  | k + 1, s, s', i, y, h, hi, hs => by
    rw [endLoop] at hs
    obtain ⟨z, hz⟩ : ∃ z, dn (s (i : Int)) sd = z := ⟨_, rfl⟩
    have hI : Ix N z := by
      obtain ⟨_, b1, b2⟩ := h i hi
      rw [← hz]
      rcases hsd with e_ | e_ <;> rw [e_]
      · exact b1
      · exact b2
    rw [hz] at hs
    rcases hI with rfl | ⟨m, hm, rfl⟩
    · rw [if_pos rfl] at hs
      obtain ⟨rfl, rfl⟩ := Prod.mk.inj (Option.some.inj hs)
      exact ⟨h, i, hi, rfl⟩
    · rw [if_neg (by omega)] at hs
      exact Good.end_loop hsd k (h.push hm) hm hs
theorem Good.endN {N : Nat} {sd : Int} (hsd : sd = 0 ∨ sd = 1) {k : Nat} {s s' : Fo} {i : Nat} {y : Int} (h : Good N s) (hi : i < N) (hs : Go.Proofs.YtcnmbgijehnchaaW.Splay.endN k s (i : Int) sd = some (s', y)) : Good N s' ∧ ∃ j : Nat, j < N ∧ y = (j : Int) := by
  unfold Go.Proofs.YtcnmbgijehnchaaW.Splay.endN at hs
  obtain ⟨⟨s2, y2⟩, h1, h2⟩ := bind_some' hs
  obtain ⟨s3, h3, h4⟩ := bind_some' h2
  obtain ⟨rfl, rfl⟩ := Prod.mk.inj (Option.some.inj h4)
  obtain ⟨g, j, hj, rfl⟩ := Good.end_loop hsd k h hi h1
  exact ⟨g.splay hj h3, j, hj, rfl⟩
set_option maxHeartbeats 8000000 in
set_option maxRecDepth 100000 in
theorem join_out {w0 w W : World} {gs gn N cap : Nat} {s : Fo}  (h : Pt w0 W gs gn N cap s w) {x y : Int} (hx : ¬ (0 ≤ x ∧ x < (N : Int)) ∨ (0 ≤ x ∧ x < (N : Int)) ∧ ¬ (0 ≤ y ∧ y < (N : Int))) :
    Calls Try.prog 15 #[.pointer (some ⟨gs, 0, none⟩), .int .i64 x, .int .i64 y] w fun e w' => e = .returned (.int .i64 4) ∧ w' = w := by
  have HP0 := Aside0.mk h
  clear h
  rcases hx with hx | ⟨hx, hy⟩
  · go_enter Try.func15, Try.ntmps15
    go_wp2_with (go_at_call 41; (with_reducible refine (there_out HP0.out.1 hx).mono ?_); rintro e w' ⟨rfl, rfl⟩)
    go_ret
    exact ⟨rfl, rfl⟩
  · obtain ⟨i, rfl⟩ : ∃ i : Nat, x = (i : Int) := ⟨x.toNat, by omega⟩
    have hi : i < N := by omega
    go_enter Try.func15, Try.ntmps15
    go_wp2_with (first | (go_at_call 41; (with_reducible refine (there_in HP0.out.1 hi).mono ?_); rintro e w' ⟨rfl, rfl⟩) | (go_at_call 41; (with_reducible refine (there_out HP0.out.1 hy).mono ?_); rintro e w' ⟨rfl, rfl⟩))
    go_ret
    exact ⟨rfl, rfl⟩
set_option maxHeartbeats 8000000 in
set_option maxRecDepth 100000 in
theorem join_self {w0 w W : World} {gs gn N cap : Nat} {s : Fo}  (h : Pt w0 W gs gn N cap s w) {i : Nat} (hi : i < N) :
    Calls Try.prog 15 #[.pointer (some ⟨gs, 0, none⟩), .int .i64 (i : Int), .int .i64 (i : Int)] w fun e w' => e = .returned (.int .i64 5) ∧ Pt w0 W gs gn N cap s w' := by
  have HP0 := Aside0.mk h
  have i0 : (0 : Int) ≤ (i : Int) := Int.natCast_nonneg i
  have i1 : (i : Int) < (N : Int) := by omega
  obtain ⟨st, hst, fst⟩ := h.st.sp.steps
  have hc : ((i : Int) == (i : Int)) = true := by simp
  have HK : Aside0 (Pt w0 W gs gn N cap s (w.setCell ⟨gs, 1, none⟩ (.int .i64 (wrap64 (st + 1))))) := ⟨h.two (h.st.sp.st _) (by simp) h.st.good⟩
  clear h
  go_enter Try.func15, Try.ntmps15
  go_wp2_with (go_at_call 41; (with_reducible refine (there_in HP0.out.1 hi).mono ?_); rintro e w' ⟨rfl, rfl⟩)
  go_ret
  exact ⟨rfl, HK.out⟩
set_option maxHeartbeats 8000000 in
set_option maxRecDepth 100000 in
theorem join_calls {w0 w W : World} {gs gn N cap : Nat} {s : Fo} {s' : Fo} {r : Int} (h : Pt w0 W gs gn N cap s w) (k : Nat) {i j : Nat} (hi : i < N) (hj : j < N) (hne : i ≠ j) (hs : joinN k s (i : Int) (j : Int) = some (s', r)) :
    Calls Try.prog 15 #[.pointer (some ⟨gs, 0, none⟩), .int .i64 (i : Int), .int .i64 (j : Int)] w fun e w' => e = .returned (.int .i64 r) ∧ Pt w0 W gs gn N cap s' w' := by
  have HP0 := Aside0.mk h
  have i0 : (0 : Int) ≤ (i : Int) := Int.natCast_nonneg i
  have i1 : (i : Int) < (N : Int) := by omega
  have j0 : (0 : Int) ≤ (j : Int) := Int.natCast_nonneg j
  have j1 : (j : Int) < (N : Int) := by omega
  have hne2 : ¬ ((i : Int) = (j : Int)) := by omega
  have hc : ((i : Int) == (j : Int)) = false := beq_eq_false_iff_ne.mpr hne2
  unfold joinN at hs
  rw [if_neg hne2] at hs
  obtain ⟨s1, h1, h2⟩ := bind_some' hs
  obtain ⟨s2, h3, h4⟩ := bind_some' h2
  have g1 := h.st.good.splay hi h1
  have g2 := g1.splay hj h3
  obtain ⟨u, hu⟩ : ∃ u, (s2 (i : Int)).up = u := ⟨_, rfl⟩
  have hU := (g2 i hi).1
  rw [hu] at h4 hU
  have H1 := Aside0.mk h1
  have H3 := Aside0.mk h3
  have HU := Aside0.mk hu
  clear h hs h1 h2 h3 hu
  rcases hU with rfl | ⟨m, hm, rfl⟩
  · rw [if_pos rfl] at h4
    obtain ⟨⟨s3, y1⟩, h5, h6⟩ := bind_some' h4
    obtain ⟨⟨s4, y2⟩, h7, h8⟩ := bind_some' h6
    obtain ⟨g3, a, ha, rfl⟩ := Good.endN (.inr rfl) g2 hi h5
    obtain ⟨g4, b, hb, rfl⟩ := Good.endN (.inl rfl) g3 hj h7
    obtain ⟨rfl, rfl⟩ := Prod.mk.inj (Option.some.inj h8)
    have n0 : ((-1 : Int) != -1) = false := rfl
    have H5 := Aside0.mk h5
    have H7 := Aside0.mk h7
    clear h4 h5 h6 h7 h8 g1 g2 g3 g4
    go_enter Try.func15, Try.ntmps15
    go_wp2_with (first
      | (go_at_call 41; (with_reducible refine (there_in HP0.out.1 hi).mono ?_); rintro e w' ⟨rfl, rfl⟩)
      | (go_at_call 41; (with_reducible refine (there_in HP0.out.1 hj).mono ?_); rintro e w' ⟨rfl, rfl⟩)
      | (go_at_call 42; (with_reducible refine (splay_st k HP0.out hi H1.out).mono ?_); rintro e w5 ⟨⟨v, rfl⟩, hP⟩; have HP5 := Aside0.mk hP; clear hP)
      | (go_at_call 42; (with_reducible refine (splay_st k HP5.out hj H3.out).mono ?_); rintro e w6 ⟨⟨v, rfl⟩, hP⟩; have HP6 := Aside0.mk hP; clear hP; have hx6 := HP6.out.1.sp.sl; have gi6 := HP6.out.1.sp.g0 hi; rw [HU.out] at gi6)
      | (go_at_call 43; (with_reducible refine (end_calls k HP6.out hi (.inr rfl) H5.out).mono ?_); rintro e w7 ⟨rfl, hP, _⟩; have HP7 := Aside0.mk hP; clear hP)
      | (go_at_call 43; (with_reducible refine (end_calls k HP7.out hj (.inl rfl) H7.out).mono ?_); rintro e w8 ⟨rfl, hP, _⟩; have HP8 := Aside0.mk hP; clear hP)
      | (go_at_call 44; (with_reducible refine (hang_st HP8.out (Ix.nat ha) hb (.inl rfl)).mono ?_); rintro e w9 ⟨⟨v, rfl⟩, hP⟩; have HP9 := Aside0.mk hP; clear hP)
      | (go_at_call 45; (with_reducible refine (pull_st HP9.out hb).mono ?_); rintro e w10 ⟨⟨v, rfl⟩, hP⟩; have HP10 := Aside0.mk hP; clear hP))
    go_ret
    exact ⟨rfl, HP10.out⟩
  · rw [if_neg (by omega)] at h4
    obtain ⟨rfl, rfl⟩ := Prod.mk.inj (Option.some.inj h4)
    have n1 : ((m : Int) != -1) = true := bne_iff_ne.mpr (by omega)
    clear h4 g1 g2
    go_enter Try.func15, Try.ntmps15
    go_wp2_with (first
      | (go_at_call 41; (with_reducible refine (there_in HP0.out.1 hi).mono ?_); rintro e w' ⟨rfl, rfl⟩)
      | (go_at_call 41; (with_reducible refine (there_in HP0.out.1 hj).mono ?_); rintro e w' ⟨rfl, rfl⟩)
      | (go_at_call 42; (with_reducible refine (splay_st k HP0.out hi H1.out).mono ?_); rintro e w5 ⟨⟨v, rfl⟩, hP⟩; have HP5 := Aside0.mk hP; clear hP)
      | (go_at_call 42; (with_reducible refine (splay_st k HP5.out hj H3.out).mono ?_); rintro e w6 ⟨⟨v, rfl⟩, hP⟩; have HP6 := Aside0.mk hP; clear hP; have hx6 := HP6.out.1.sp.sl; have gi6 := HP6.out.1.sp.g0 hi; rw [HU.out] at gi6))
    go_ret
    exact ⟨rfl, HP6.out⟩
end Go.Proofs.YtcnmbgijehnchaaW.Splay
