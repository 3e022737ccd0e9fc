/- splay: the calls that need one item, or two (contracts by hand; printed by mkS10.py). -/
import Derived.Test.YtcnmbgijehnchaaS9
set_option linter.unusedVariables false
set_option linter.unusedSimpArgs false
namespace Go.Proofs.YtcnmbgijehnchaaW.Splay
open Go.RowKit Go.Proofs.YtcnmbgijehnchaaW.PrintWords Go.Proofs.YtcnmbgijehnchaaW.PrintLast Go.Proofs.YtcnmbgijehnchaaW.PrintMore Go.Proofs.YtcnmbgijehnchaaW.Mine
attribute [local go_sem] max2_int min2_int max_two min_two max_three min_three max_four min_four
theorem bind_some' {α β : Type} {o : Option α} {f : α → Option β} {r : β} (h : o.bind f = some r) : ∃ a, o = some a ∧ f a = some r := Option.bind_eq_some_iff.1 h
theorem Pt.two {w0 W W1 W2 : World} {gs gn N cap : Nat} {s s1 : Fo} (h : Pt w0 W gs gn N cap s W1) (k : Sp 57 60 (og gs gn) w0 W2 gs gn N cap s1 ∧ Stay (og gs gn) (og gs gn) SpT W1 W2) (hz : W1.heap.size ≤ W2.heap.size) (hg : Good N s1) : Pt w0 W gs gn N cap s1 W2 := h.trans (Pt.of h.1 k hz hg)
set_option maxHeartbeats 8000000 in
set_option maxRecDepth 100000 in
theorem turn_calls {w0 w W : World} {gs gn N cap : Nat} {s : Fo} {s1 : Fo} (h : Pt w0 W gs gn N cap s w) (k : Nat) {i : Nat} (hi : i < N) (hs : splayN k s (i : Int) = some s1) :
    Calls Try.prog 17 #[.pointer (some ⟨gs, 0, none⟩), .int .i64 (i : Int)] w fun e w' => (∃ v, e = .returned v) ∧ Pt w0 W gs gn N cap (lay s1 (i : Int) 0 true) w' := by
  have HP0 := Aside0.mk h
  have i0 : (0 : Int) ≤ (i : Int) := Int.natCast_nonneg i
  have i1 : (i : Int) < (N : Int) := by omega
  have HS := Aside0.mk hs
  clear h hs
  go_enter Try.func17, Try.ntmps17
  go_wp2_with (first
    | (go_at_call 41; (with_reducible refine (there_in HP0.out.1 hi).mono ?_); rintro e w' ⟨rfl, rfl⟩)
    | (go_at_call 42; (with_reducible refine (splay_st k HP0.out hi HS.out).mono ?_); rintro e w5 ⟨⟨v, rfl⟩, hP⟩; have HP5 := Aside0.mk hP; clear hP)
    | (go_at_call 47; (with_reducible refine (lay_st HP5.out (Ix.nat hi) 0 true).mono ?_); rintro e w6 ⟨⟨v, rfl⟩, hP⟩; have HP6 := Aside0.mk hP; clear hP))
  refine bodyPost_end (results_none rfl _ _ _) rfl ?_
  exact ⟨⟨_, rfl⟩, HP6.out⟩
set_option maxHeartbeats 8000000 in
set_option maxRecDepth 100000 in
theorem turn_out {w0 w W : World} {gs gn N cap : Nat} {s : Fo}  (h : Pt w0 W gs gn N cap s w) {x : Int} (hx : ¬ (0 ≤ x ∧ x < (N : Int))) :
    Calls Try.prog 17 #[.pointer (some ⟨gs, 0, none⟩), .int .i64 x] w fun e w' => (∃ v, e = .returned v) ∧ w' = w := by
  have HP0 := Aside0.mk h
  clear h
  go_enter Try.func17, Try.ntmps17
  go_wp2_with (go_at_call 41; (with_reducible refine (there_out HP0.out.1 hx).mono ?_); rintro e w' ⟨rfl, rfl⟩)
  refine bodyPost_end (results_none rfl _ _ _) rfl ?_
  exact ⟨⟨_, rfl⟩, rfl⟩
set_option maxHeartbeats 8000000 in
set_option maxRecDepth 100000 in
theorem value_out {w0 w W : World} {gs gn N cap : Nat} {s : Fo}  (h : Pt w0 W gs gn N cap s w) {x : Int} (hx : ¬ (0 ≤ x ∧ x < (N : Int))) :
    Calls Try.prog 25 #[.pointer (some ⟨gs, 0, none⟩), .int .i64 x] w fun e w' => e = .returned (.int .i64 0) ∧ w' = w := by
  have HP0 := Aside0.mk h
  clear h
  go_enter Try.func25, Try.ntmps25
  go_wp2_with (go_at_call 41; (with_reducible refine (there_out HP0.out.1 hx).mono ?_); rintro e w' ⟨rfl, rfl⟩)
  go_ret
  exact ⟨rfl, rfl⟩
set_option maxHeartbeats 8000000 in
set_option maxRecDepth 100000 in
theorem place_out {w0 w W : World} {gs gn N cap : Nat} {s : Fo}  (h : Pt w0 W gs gn N cap s w) {x : Int} (hx : ¬ (0 ≤ x ∧ x < (N : Int))) :
    Calls Try.prog 21 #[.pointer (some ⟨gs, 0, none⟩), .int .i64 x] w fun e w' => e = .returned (.int .i64 (-1)) ∧ w' = w := by
  have HP0 := Aside0.mk h
  clear h
  go_enter Try.func21, Try.ntmps21
  go_wp2_with (go_at_call 41; (with_reducible refine (there_out HP0.out.1 hx).mono ?_); rintro e w' ⟨rfl, rfl⟩)
  go_ret
  exact ⟨rfl, rfl⟩
set_option maxHeartbeats 8000000 in
set_option maxRecDepth 100000 in
theorem split_out {w0 w W : World} {gs gn N cap : Nat} {s : Fo}  (h : Pt w0 W gs gn N cap s w) {x : Int} (hx : ¬ (0 ≤ x ∧ x < (N : Int))) :
    Calls Try.prog 18 #[.pointer (some ⟨gs, 0, none⟩), .int .i64 x] w fun e w' => e = .returned (.int .i64 4) ∧ w' = w := by
  have HP0 := Aside0.mk h
  clear h
  go_enter Try.func18, Try.ntmps18
  go_wp2_with (go_at_call 41; (with_reducible refine (there_out HP0.out.1 hx).mono ?_); rintro e w' ⟨rfl, rfl⟩)
  go_ret
  exact ⟨rfl, rfl⟩
set_option maxHeartbeats 8000000 in
set_option maxRecDepth 100000 in
theorem first_out {w0 w W : World} {gs gn N cap : Nat} {s : Fo}  (h : Pt w0 W gs gn N cap s w) {x : Int} (hx : ¬ (0 ≤ x ∧ x < (N : Int))) :
    Calls Try.prog 23 #[.pointer (some ⟨gs, 0, none⟩), .int .i64 x] w fun e w' => e = .returned (.int .i64 (-1)) ∧ w' = w := by
  have HP0 := Aside0.mk h
  clear h
  go_enter Try.func23, Try.ntmps23
  go_wp2_with (go_at_call 41; (with_reducible refine (there_out HP0.out.1 hx).mono ?_); rintro e w' ⟨rfl, rfl⟩)
  go_ret
  exact ⟨rfl, rfl⟩
set_option maxHeartbeats 8000000 in
set_option maxRecDepth 100000 in
theorem last_out {w0 w W : World} {gs gn N cap : Nat} {s : Fo}  (h : Pt w0 W gs gn N cap s w) {x : Int} (hx : ¬ (0 ≤ x ∧ x < (N : Int))) :
    Calls Try.prog 24 #[.pointer (some ⟨gs, 0, none⟩), .int .i64 x] w fun e w' => e = .returned (.int .i64 (-1)) ∧ w' = w := by
  have HP0 := Aside0.mk h
  clear h
  go_enter Try.func24, Try.ntmps24
  go_wp2_with (go_at_call 41; (with_reducible refine (there_out HP0.out.1 hx).mono ?_); rintro e w' ⟨rfl, rfl⟩)
  go_ret
  exact ⟨rfl, rfl⟩
set_option maxHeartbeats 8000000 in
set_option maxRecDepth 100000 in
theorem least_out {w0 w W : World} {gs gn N cap : Nat} {s : Fo}  (h : Pt w0 W gs gn N cap s w) {x : Int} (hx : ¬ (0 ≤ x ∧ x < (N : Int))) :
    Calls Try.prog 16 #[.pointer (some ⟨gs, 0, none⟩), .int .i64 x] w fun e w' => e = .returned (.int .i64 (-1)) ∧ w' = w := by
  have HP0 := Aside0.mk h
  clear h
  go_enter Try.func16, Try.ntmps16
  go_wp2_with (go_at_call 41; (with_reducible refine (there_out HP0.out.1 hx).mono ?_); rintro e w' ⟨rfl, rfl⟩)
  go_ret
  exact ⟨rfl, rfl⟩
set_option maxHeartbeats 8000000 in
set_option maxRecDepth 100000 in
theorem at_out {w0 w W : World} {gs gn N cap : Nat} {s : Fo}  (h : Pt w0 W gs gn N cap s w) {x : Int} (hx : ¬ (0 ≤ x ∧ x < (N : Int))) (pl : Int) :
    Calls Try.prog 22 #[.pointer (some ⟨gs, 0, none⟩), .int .i64 x, .int .i64 pl] w fun e w' => e = .returned (.int .i64 (-1)) ∧ w' = w := by
  have HP0 := Aside0.mk h
  clear h
  go_enter Try.func22, Try.ntmps22
  go_wp2_with (go_at_call 41; (with_reducible refine (there_out HP0.out.1 hx).mono ?_); rintro e w' ⟨rfl, rfl⟩)
  go_ret
  exact ⟨rfl, rfl⟩
set_option maxHeartbeats 8000000 in
set_option maxRecDepth 100000 in
theorem add_out {w0 w W : World} {gs gn N cap : Nat} {s : Fo}  (h : Pt w0 W gs gn N cap s w) {x : Int} (hx : ¬ (0 ≤ x ∧ x < (N : Int))) (d : Int) :
    Calls Try.prog 26 #[.pointer (some ⟨gs, 0, none⟩), .int .i64 x, .int .i64 d] w fun e w' => e = .returned (.int .i64 4) ∧ w' = w := by
  have HP0 := Aside0.mk h
  clear h
  go_enter Try.func26, Try.ntmps26
  go_wp2_with (go_at_call 41; (with_reducible refine (there_out HP0.out.1 hx).mono ?_); rintro e w' ⟨rfl, rfl⟩)
  go_ret
  exact ⟨rfl, rfl⟩
set_option maxHeartbeats 8000000 in
set_option maxRecDepth 100000 in
theorem value_calls {w0 w W : World} {gs gn N cap : Nat} {s : Fo} {s1 : Fo} {v1 : Int} (h : Pt w0 W gs gn N cap s w) (k : Nat) {i : Nat} (hi : i < N) (hs : valueN k s (i : Int) = some (s1, v1)) :
    Calls Try.prog 25 #[.pointer (some ⟨gs, 0, none⟩), .int .i64 (i : Int)] w fun e w' => e = .returned (.int .i64 v1) ∧ Pt w0 W gs gn N cap s1 w' := by
  have HP0 := Aside0.mk h
  have i0 : (0 : Int) ≤ (i : Int) := Int.natCast_nonneg i
  have i1 : (i : Int) < (N : Int) := by omega
  unfold valueN at hs
  obtain ⟨s2, h2, h3⟩ := bind_some' hs
  obtain ⟨rfl, rfl⟩ := Prod.mk.inj (Option.some.inj h3)
  have HS := Aside0.mk h2
  clear h hs h2 h3
  go_enter Try.func25, Try.ntmps25
  go_wp2_with (first
    | (go_at_call 41; (with_reducible refine (there_in HP0.out.1 hi).mono ?_); rintro e w' ⟨rfl, rfl⟩)
    | (go_at_call 42; (with_reducible refine (splay_st k HP0.out hi HS.out).mono ?_); rintro e w5 ⟨⟨v, rfl⟩, hP⟩; have HP5 := Aside0.mk hP; clear hP; have hx5 := HP5.out.1.sp.sl; have g5 := HP5.out.1.sp.g4 hi))
  go_ret
  exact ⟨rfl, HP5.out⟩
set_option maxHeartbeats 8000000 in
set_option maxRecDepth 100000 in
theorem place_calls {w0 w W : World} {gs gn N cap : Nat} {s : Fo} {s1 : Fo} {v1 : Int} (h : Pt w0 W gs gn N cap s w) (k : Nat) {i : Nat} (hi : i < N) (hs : placeN k s (i : Int) = some (s1, v1)) :
    Calls Try.prog 21 #[.pointer (some ⟨gs, 0, none⟩), .int .i64 (i : Int)] w fun e w' => e = .returned (.int .i64 v1) ∧ Pt w0 W gs gn N cap s1 w' := by
  have HP0 := Aside0.mk h
  have i0 : (0 : Int) ≤ (i : Int) := Int.natCast_nonneg i
  have i1 : (i : Int) < (N : Int) := by omega
  unfold placeN at hs
  obtain ⟨s2, h2, h3⟩ := bind_some' hs
  obtain ⟨rfl, h4⟩ := Prod.mk.inj (Option.some.inj h3)
  have HS := Aside0.mk h2
  have H4 := Aside0.mk h4
  obtain ⟨z, hz⟩ : ∃ z, (s2 (i : Int)).d0 = z := ⟨_, rfl⟩
  have hI : Ix N z := hz ▸ ((h.1.good.splay hi h2) i hi).2.1
  have HZ := Aside0.mk hz
  clear h hs h2 h3 h4 hz
  rcases hI with rfl | ⟨m, hm, rfl⟩
  · have n0 : ((-1 : Int) != -1) = false := rfl
    have e_ : v1 = 0 := by
      have h_ := H4.out
      rw [HZ.out, if_pos rfl] at h_
      exact h_.symm
    subst e_
    go_enter Try.func21, Try.ntmps21
    go_wp2_with (first
      | (go_at_call 41; (with_reducible refine (there_in HP0.out.1 hi).mono ?_); rintro e w' ⟨rfl, rfl⟩)
      | (go_at_call 42; (with_reducible refine (splay_st k HP0.out hi HS.out).mono ?_); rintro e w5 ⟨⟨v, rfl⟩, hP⟩; have HP5 := Aside0.mk hP; clear hP; have hx5 := HP5.out.1.sp.sl; have g5 := HP5.out.1.sp.g1 hi; rw [HZ.out] at g5))
    go_ret
    exact ⟨rfl, HP5.out⟩
  · have n1 : ((m : Int) != -1) = true := bne_iff_ne.mpr (by omega)
    have n2 : ¬ ((m : Int) = -1) := by omega
    have m0 : (0 : Int) ≤ (m : Int) := Int.natCast_nonneg m
    have m1 : (m : Int) < (N : Int) := by omega
    have e_ : v1 = (s2 (m : Int)).size := by
      have h_ := H4.out
      rw [HZ.out, if_neg n2] at h_
      exact h_.symm
    subst e_
    go_enter Try.func21, Try.ntmps21
    go_wp2_with (first
      | (go_at_call 41; (with_reducible refine (there_in HP0.out.1 hi).mono ?_); rintro e w' ⟨rfl, rfl⟩)
      | (go_at_call 42; (with_reducible refine (splay_st k HP0.out hi HS.out).mono ?_); rintro e w5 ⟨⟨v, rfl⟩, hP⟩; have HP5 := Aside0.mk hP; clear hP; have hx5 := HP5.out.1.sp.sl; have g5 := HP5.out.1.sp.g1 hi; rw [HZ.out] at g5; have gm := HP5.out.1.sp.g3 hm))
    go_ret
    exact ⟨rfl, HP5.out⟩
set_option maxHeartbeats 8000000 in
set_option maxRecDepth 100000 in
theorem split_calls {w0 w W : World} {gs gn N cap : Nat} {s : Fo} {s1 : Fo} (h : Pt w0 W gs gn N cap s w) (k : Nat) {i : Nat} (hi : i < N) (hs : splayN k s (i : Int) = some s1) :
    Calls Try.prog 18 #[.pointer (some ⟨gs, 0, none⟩), .int .i64 (i : Int)] w fun e w' => e = .returned (.int .i64 0) ∧ Pt w0 W gs gn N cap (splitN s1 (i : Int)) w' := by
  have HP0 := Aside0.mk h
  have i0 : (0 : Int) ≤ (i : Int) := Int.natCast_nonneg i
  have i1 : (i : Int) < (N : Int) := by omega
  have HS := Aside0.mk hs
  obtain ⟨z, hz⟩ : ∃ z, (s1 (i : Int)).d0 = z := ⟨_, rfl⟩
  have HG : Aside0 (Good N s1) := ⟨h.1.good.splay hi hs⟩
  have hI : Ix N z := hz ▸ (HG.out i hi).2.1
  have HZ := Aside0.mk hz
  clear h hs hz
  rcases hI with rfl | ⟨m, hm, rfl⟩
  · have n0 : ((-1 : Int) != -1) = false := rfl
    have e_ : splitN s1 (i : Int) = s1 := by
      unfold splitN
      rw [if_pos HZ.out]
    rw [e_]
    go_enter Try.func18, Try.ntmps18
    go_wp2_with (first
      | (go_at_call 41; (with_reducible refine (there_in HP0.out.1 hi).mono ?_); rintro e w' ⟨rfl, rfl⟩)
      | (go_at_call 42; (with_reducible refine (splay_st k HP0.out hi HS.out).mono ?_); rintro e w5 ⟨⟨v, rfl⟩, hP⟩; have HP5 := Aside0.mk hP; clear hP; have hx5 := HP5.out.1.sp.sl; have g5 := HP5.out.1.sp.g1 hi; rw [HZ.out] at g5))
    go_ret
    exact ⟨rfl, HP5.out⟩
  · have n1 : ((m : Int) != -1) = true := bne_iff_ne.mpr (by omega)
    have n2 : ¬ ((m : Int) = -1) := by omega
    have m0 : (0 : Int) ≤ (m : Int) := Int.natCast_nonneg m
    have m1 : (m : Int) < (N : Int) := by omega
    have e_ : splitN s1 (i : Int) = pull (upd (upd s1 (m : Int) { s1 (m : Int) with up := -1 }) (i : Int) { upd s1 (m : Int) { s1 (m : Int) with up := -1 } (i : Int) with d0 := -1 }) (i : Int) := by
      unfold splitN
      rw [HZ.out, if_neg n2]
    rw [e_]
    have hG2 : Good N (upd (upd s1 (m : Int) { s1 (m : Int) with up := -1 }) (i : Int) { upd s1 (m : Int) { s1 (m : Int) with up := -1 } (i : Int) with d0 := -1 }) := by
      have h1_ : Good N (upd s1 (m : Int) { s1 (m : Int) with up := -1 }) := HG.out.upd (.inl rfl) (HG.out m hm).2.1 (HG.out m hm).2.2
      exact h1_.upd (h1_ i hi).1 (.inl rfl) (h1_ i hi).2.2
    have HG2 := Aside0.mk hG2
    clear hG2 e_
    go_enter Try.func18, Try.ntmps18
    go_wp2_with (first
      | (go_at_call 41; (with_reducible refine (there_in HP0.out.1 hi).mono ?_); rintro e w' ⟨rfl, rfl⟩)
      | (go_at_call 42; (with_reducible refine (splay_st k HP0.out hi HS.out).mono ?_); rintro e w5 ⟨⟨v, rfl⟩, hP⟩; have HP5 := Aside0.mk hP; clear hP; have hx5 := HP5.out.1.sp.sl; have g5 := HP5.out.1.sp.g1 hi; rw [HZ.out] at g5; have gm := HP5.out.1.sp.g0 hm; have fm := HP5.out.1.sp.fz (m * 9); have K1 := HP5.out.1.sp.p0 hm (-1); have gi := K1.1.g1 hi; have fi := K1.1.fz (i * 9 + 1); have K2 := Sp.then_ K1 (by simp) (K1.1.p1 hi (-1)); have KK := Aside0.mk K2; clear K1 K2))
    try simp only [Act.put, List.setIfInBounds_toArray, List.set_cons_zero, List.set_cons_succ]
    go_region
    have HP6 : Aside0 (Pt w0 W gs gn N cap _ _) := ⟨(HP5.out.two KK.out (by simp) HG2.out).drew⟩
    clear hx5 g5 gm fm gi fi
    go_wp2_with (first
      | (go_at_call 45; (with_reducible refine (pull_st HP6.out hi).mono ?_); rintro e w7 ⟨⟨v, rfl⟩, hP⟩; have HP7 := Aside0.mk hP; clear hP))
    go_ret
    exact ⟨rfl, HP7.out⟩
set_option maxHeartbeats 8000000 in
set_option maxRecDepth 100000 in
theorem first_calls {w0 w W : World} {gs gn N cap : Nat} {s : Fo} {s1 s2 : Fo} {y : Int} (h : Pt w0 W gs gn N cap s w) (k : Nat) {i : Nat} (hi : i < N) (hs : splayN k s (i : Int) = some s1) (he : endN k s1 (i : Int) 0 = some (s2, y)) :
    Calls Try.prog 23 #[.pointer (some ⟨gs, 0, none⟩), .int .i64 (i : Int)] w fun e w' => e = .returned (.int .i64 y) ∧ Pt w0 W gs gn N cap s2 w' ∧ ∃ j : Nat, j < N ∧ y = (j : Int) := by
  have HP0 := Aside0.mk h
  have i0 : (0 : Int) ≤ (i : Int) := Int.natCast_nonneg i
  have i1 : (i : Int) < (N : Int) := by omega
  have HS := Aside0.mk hs
  have HE := Aside0.mk he
  clear h hs he
  go_enter Try.func23, Try.ntmps23
  go_wp2_with (first
    | (go_at_call 41; (with_reducible refine (there_in HP0.out.1 hi).mono ?_); rintro e w' ⟨rfl, rfl⟩)
    | (go_at_call 42; (with_reducible refine (splay_st k HP0.out hi HS.out).mono ?_); rintro e w5 ⟨⟨v, rfl⟩, hP⟩; have HP5 := Aside0.mk hP; clear hP)
    | (go_at_call 43; (with_reducible refine (end_calls k HP5.out hi (by decide) HE.out).mono ?_); rintro e w6 ⟨rfl, hP, hJ⟩; have HP6 := Aside0.mk hP; have HJ := Aside0.mk hJ; clear hP hJ))
  go_ret
  exact ⟨rfl, HP6.out, HJ.out⟩
set_option maxHeartbeats 8000000 in
set_option maxRecDepth 100000 in
theorem last_calls {w0 w W : World} {gs gn N cap : Nat} {s : Fo} {s1 s2 : Fo} {y : Int} (h : Pt w0 W gs gn N cap s w) (k : Nat) {i : Nat} (hi : i < N) (hs : splayN k s (i : Int) = some s1) (he : endN k s1 (i : Int) 1 = some (s2, y)) :
    Calls Try.prog 24 #[.pointer (some ⟨gs, 0, none⟩), .int .i64 (i : Int)] w fun e w' => e = .returned (.int .i64 y) ∧ Pt w0 W gs gn N cap s2 w' ∧ ∃ j : Nat, j < N ∧ y = (j : Int) := by
  have HP0 := Aside0.mk h
  have i0 : (0 : Int) ≤ (i : Int) := Int.natCast_nonneg i
  have i1 : (i : Int) < (N : Int) := by omega
  have HS := Aside0.mk hs
  have HE := Aside0.mk he
  clear h hs he
  go_enter Try.func24, Try.ntmps24
  go_wp2_with (first
    | (go_at_call 41; (with_reducible refine (there_in HP0.out.1 hi).mono ?_); rintro e w' ⟨rfl, rfl⟩)
    | (go_at_call 42; (with_reducible refine (splay_st k HP0.out hi HS.out).mono ?_); rintro e w5 ⟨⟨v, rfl⟩, hP⟩; have HP5 := Aside0.mk hP; clear hP)
    | (go_at_call 43; (with_reducible refine (end_calls k HP5.out hi (by decide) HE.out).mono ?_); rintro e w6 ⟨rfl, hP, hJ⟩; have HP6 := Aside0.mk hP; have HJ := Aside0.mk hJ; clear hP hJ))
  go_ret
  exact ⟨rfl, HP6.out, HJ.out⟩
end Go.Proofs.YtcnmbgijehnchaaW.Splay
