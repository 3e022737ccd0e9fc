/- splay: on which side, and hung below (contracts by hand). -/
import Derived.Test.YtcnmbgijehnchaaS2
set_option linter.unusedVariables false
set_option linter.unusedSimpArgs false
namespace Go.Proofs.YtcnmbgijehnchaaW.Splay
open Go.RowKit Go.Proofs.YtcnmbgijehnchaaW.PrintWords Go.Proofs.YtcnmbgijehnchaaW.PrintLast Go.Proofs.YtcnmbgijehnchaaW.PrintMore Go.Proofs.YtcnmbgijehnchaaW.Mine
attribute [local go_sem] max2_int min2_int max_two min_two max_three min_three max_four min_four
set_option maxHeartbeats 8000000 in
set_option maxRecDepth 100000 in
theorem side_calls {own : Nat → Nat} {w0 w : World} {gs gn N cap : Nat} {s : Fo} (h : Sp 57 60 own w0 w gs gn N cap s) (hN : N ≤ 3000) {i j : Nat} (hi : i < N) (hj : j < N) (hu : (s (i : Int)).up = (j : Int)) :
    Calls Try.prog 54 #[.pointer (some ⟨gs, 0, none⟩), .int .i64 (i : Int)] w fun e w' => e = .returned (.int .i64 (side s (i : Int))) ∧ Sp 57 60 own w0 w' gs gn N cap s ∧ Stay own own SpT w w' ∧ w.heap.size ≤ w'.heap.size := by
  have HS := Aside0.mk h
  have HU := Aside0.mk hu
  clear h
  have h0 := HS.out.sl
  have g0 := HS.out.g0 hi
  have g2 : w.cell? ⟨gn, j * 9 + 1 + 1, none⟩ = _ := HS.out.g2 hj
  rw [hu] at g0
  clear hu
  have i0 : (0 : Int) ≤ (i : Int) := Int.natCast_nonneg i
  have i1 : (i : Int) < (N : Int) := by omega
  have j0 : (0 : Int) ≤ (j : Int) := Int.natCast_nonneg j
  have j1 : (j : Int) < (N : Int) := by omega
  obtain ⟨q, hq⟩ : ∃ q, (s (j : Int)).d1 = q := ⟨_, rfl⟩
  rw [hq] at g2
  have HQ := Aside0.mk hq
  clear hq
  go_enter Try.func54, Try.ntmps54
  by_cases c : q = (i : Int)
  · subst c
    have es : side s (i : Int) = 1 := by
      unfold side
      rw [HU.out]
      exact if_pos HQ.out
    go_wp2
    try simp only [Act.put, List.setIfInBounds_toArray, List.set_cons_zero, List.set_cons_succ]
    try go_region
    try go_wp2
    refine bodyPost_ret (results_tmp rfl _ _ _) rfl ?_
    exact ⟨by rw [es]; rfl, HS.out.drew, stay_drew (Stay.same (fun _ _ _ => rfl)), Nat.le_refl _⟩
  · have es : side s (i : Int) = 0 := by
      unfold side
      rw [HU.out]
      exact if_neg (by rw [HQ.out]; exact c)
    have c0 : (q == (i : Int)) = false := beq_eq_false_iff_ne.mpr c
    go_wp2
    try simp only [Act.put, List.setIfInBounds_toArray, List.set_cons_zero, List.set_cons_succ]
    try go_region
    try go_wp2
    refine bodyPost_ret (results_tmp rfl _ _ _) rfl ?_
    exact ⟨by rw [es]; rfl, HS.out.drew, stay_drew (Stay.same (fun _ _ _ => rfl)), Nat.le_refl _⟩
set_option maxHeartbeats 8000000 in
set_option maxRecDepth 100000 in
theorem hang_calls {own : Nat → Nat} {w0 w : World} {gs gn N cap : Nat} {s : Fo} (h : Sp 57 60 own w0 w gs gn N cap s) (hN : N ≤ 3000) {x : Int} (hx : Ix N x) {j : Nat} (hj : j < N) {sd : Int} (hsd : sd = 0 ∨ sd = 1) :
    Calls Try.prog 44 #[.pointer (some ⟨gs, 0, none⟩), .int .i64 x, .int .i64 (j : Int), .int .i64 sd] w fun e w' => (∃ v, e = .returned v) ∧ Sp 57 60 own w0 w' gs gn N cap (hang s x (j : Int) sd) ∧ Stay own own SpT w w' ∧ w.heap.size ≤ w'.heap.size := by
  have HS := Aside0.mk h
  clear h
  have h0 := HS.out.sl
  have g1 := HS.out.g1 hj
  have g2 : w.cell? ⟨gn, j * 9 + 1 + 1, none⟩ = _ := HS.out.g2 hj
  have f1 := HS.out.fz (j * 9 + 1)
  have f2 := HS.out.fz (j * 9 + 1 + 1)
  have j0 : (0 : Int) ≤ (j : Int) := Int.natCast_nonneg j
  have j1 : (j : Int) < (N : Int) := by omega
  rcases hsd with rfl | rfl
  · go_enter Try.func44, Try.ntmps44
    rcases hx with rfl | ⟨m, hm, rfl⟩
    · have K1 : Sp 57 60 own w0 (w.setCell ⟨gn, j * 9 + 1, none⟩ (.int .i64 (-1))) gs gn N cap (upd s (j : Int) (setDn (s (j : Int)) 0 (-1))) ∧ Stay own own SpT w (w.setCell ⟨gn, j * 9 + 1, none⟩ (.int .i64 (-1))) := HS.out.p1 hj (-1)
      have KK := Aside0.mk K1
      clear K1
      go_wp2
      refine bodyPost_end (results_none rfl _ _ _) rfl ?_
      refine ⟨⟨_, rfl⟩, ?_, KK.out.2, by simp⟩
      unfold hang
      rw [if_pos rfl]
      exact KK.out.1
    · have K1 : Sp 57 60 own w0 (w.setCell ⟨gn, j * 9 + 1, none⟩ (.int .i64 (m : Int))) gs gn N cap (upd s (j : Int) (setDn (s (j : Int)) 0 (m : Int))) ∧ Stay own own SpT w (w.setCell ⟨gn, j * 9 + 1, none⟩ (.int .i64 (m : Int))) := HS.out.p1 hj (m : Int)
      have k0 := K1.1.sl
      have k1 := K1.1.g0 hm
      have k2 := K1.1.fz (m * 9)
      have K2 := Sp.then_ K1 (by simp) (K1.1.p0 hm (j : Int))
      have KK := Aside0.mk K2
      clear K1 K2
      have m0 : (0 : Int) ≤ (m : Int) := Int.natCast_nonneg m
      have m1 : (m : Int) < (N : Int) := by omega
      have n2 : ((m : Int) != -1) = true := bne_iff_ne.mpr (by omega)
      have n3 : ¬ ((m : Int) = -1) := by omega
      go_wp2
      refine bodyPost_end (results_none rfl _ _ _) rfl ?_
      refine ⟨⟨_, rfl⟩, ?_, KK.out.2, by simp⟩
      unfold hang
      rw [if_neg n3]
      exact KK.out.1
  · go_enter Try.func44, Try.ntmps44
    rcases hx with rfl | ⟨m, hm, rfl⟩
    · have K1 : Sp 57 60 own w0 (w.setCell ⟨gn, j * 9 + 1 + 1, none⟩ (.int .i64 (-1))) gs gn N cap (upd s (j : Int) (setDn (s (j : Int)) 1 (-1))) ∧ Stay own own SpT w (w.setCell ⟨gn, j * 9 + 1 + 1, none⟩ (.int .i64 (-1))) := HS.out.p2 hj (-1)
      have KK := Aside0.mk K1
      clear K1
      go_wp2
      refine bodyPost_end (results_none rfl _ _ _) rfl ?_
      refine ⟨⟨_, rfl⟩, ?_, KK.out.2, by simp⟩
      unfold hang
      rw [if_pos rfl]
      exact KK.out.1
    · have K1 : Sp 57 60 own w0 (w.setCell ⟨gn, j * 9 + 1 + 1, none⟩ (.int .i64 (m : Int))) gs gn N cap (upd s (j : Int) (setDn (s (j : Int)) 1 (m : Int))) ∧ Stay own own SpT w (w.setCell ⟨gn, j * 9 + 1 + 1, none⟩ (.int .i64 (m : Int))) := HS.out.p2 hj (m : Int)
      have k0 := K1.1.sl
      have k1 := K1.1.g0 hm
      have k2 := K1.1.fz (m * 9)
      have K2 := Sp.then_ K1 (by simp) (K1.1.p0 hm (j : Int))
      have KK := Aside0.mk K2
      clear K1 K2
      have m0 : (0 : Int) ≤ (m : Int) := Int.natCast_nonneg m
      have m1 : (m : Int) < (N : Int) := by omega
      have n2 : ((m : Int) != -1) = true := bne_iff_ne.mpr (by omega)
      have n3 : ¬ ((m : Int) = -1) := by omega
      go_wp2
      refine bodyPost_end (results_none rfl _ _ _) rfl ?_
      refine ⟨⟨_, rfl⟩, ?_, KK.out.2, by simp⟩
      unfold hang
      rw [if_neg n3]
      exact KK.out.1
end Go.Proofs.YtcnmbgijehnchaaW.Splay
