/- splay: what a node tells is reckoned anew (contracts by hand). -/
import Derived.Test.YtcnmbgijehnchaaS2
set_option linter.unusedVariables false
set_option linter.unusedSimpArgs false
namespace Go.Proofs.YtcnmbgijehnchaaW.Splay
open Go.RowKit Go.Proofs.YtcnmbgijehnchaaW.PrintWords Go.Proofs.YtcnmbgijehnchaaW.PrintLast Go.Proofs.YtcnmbgijehnchaaW.PrintMore Go.Proofs.YtcnmbgijehnchaaW.Mine
attribute [local go_sem] max2_int min2_int max_two min_two max_three min_three max_four min_four
section
variable {tF tN : Nat} {own : Nat → Nat} {w0 W : World} {gs gn N cap : Nat} {s : Fo} {i : Nat}
theorem Sp.pl (h : Sp tF tN own w0 W gs gn N cap s) (hi : i < N) (z ls ms : Int) :
    Sp tF tN own w0 (((W.setCell ⟨gn, i * 9 + 3, none⟩ (.int .i64 z)).setCell ⟨gn, i * 9 + 5, none⟩ (.int .i64 ls)).setCell ⟨gn, i * 9 + 6, none⟩ (.int .i64 ms)).drew gs gn N cap (upd s (i : Int) { s (i : Int) with size := z, ls := ls, ms := ms }) ∧
    Stay own own SpT W (((W.setCell ⟨gn, i * 9 + 3, none⟩ (.int .i64 z)).setCell ⟨gn, i * 9 + 5, none⟩ (.int .i64 ls)).setCell ⟨gn, i * 9 + 6, none⟩ (.int .i64 ms)).drew := by
  have k1 := h.p3 hi z
  have k2 := Sp.then_ k1 (by simp) (k1.1.p5 hi ls)
  have k3 := Sp.then_ k2 (by simp) (k2.1.p6 hi ms)
  simp only [upd_upd, upd_same] at k3
  exact ⟨k3.1.drew, stay_drew k3.2⟩
end
set_option maxHeartbeats 8000000 in
set_option maxRecDepth 100000 in
theorem pull_calls {own : Nat → Nat} {w0 w : World} {gs gn N cap : Nat} {s : Fo} (h : Sp 57 60 own w0 w gs gn N cap s) (hN : N ≤ 3000) {i : Nat} (hi : i < N) (h0 : Ix N (s (i : Int)).d0) (h1 : Ix N (s (i : Int)).d1) :
    Calls Try.prog 45 #[.pointer (some ⟨gs, 0, none⟩), .int .i64 (i : Int)] w fun e w' => (∃ v, e = .returned v) ∧ Sp 57 60 own w0 w' gs gn N cap (pull s (i : Int)) ∧ Stay own own SpT w w' ∧ w.heap.size ≤ w'.heap.size := by
  have HS := Aside0.mk h
  have H0 := Aside0.mk h0
  have H1 := Aside0.mk h1
  clear h h0 h1
  have hu58 := Try.underlying58
  have h0 := HS.out.sl
  have g3 := HS.out.g3 hi
  have g4 := HS.out.g4 hi
  have g5 := HS.out.g5 hi
  have g6 := HS.out.g6 hi
  have f3 := HS.out.fz (i * 9 + 3)
  have f5 := HS.out.fz (i * 9 + 5)
  have f6 := HS.out.fz (i * 9 + 6)
  have i0 : (0 : Int) ≤ (i : Int) := Int.natCast_nonneg i
  have i1 : (i : Int) < (N : Int) := by omega
  go_enter Try.func45, Try.ntmps45
  go_wp2
  try simp only [Act.put, List.setIfInBounds_toArray, List.set_cons_zero, List.set_cons_succ]
  go_region
  have k1 := HS.out.pl hi 1 (s (i : Int)).v (s (i : Int)).v
  have K1 : Aside0 (Sp 57 60 own w0 (((w.setCell ⟨gn, i * 9 + 3, none⟩ (.int .i64 1)).setCell ⟨gn, i * 9 + 5, none⟩ (.int .i64 (s (i : Int)).v)).setCell ⟨gn, i * 9 + 6, none⟩ (.int .i64 (s (i : Int)).v)).drew gs gn N cap (pull0 s (i : Int)) ∧ Stay own own SpT w (((w.setCell ⟨gn, i * 9 + 3, none⟩ (.int .i64 1)).setCell ⟨gn, i * 9 + 5, none⟩ (.int .i64 (s (i : Int)).v)).setCell ⟨gn, i * 9 + 6, none⟩ (.int .i64 (s (i : Int)).v)).drew ∧ w.heap.size ≤ (((w.setCell ⟨gn, i * 9 + 3, none⟩ (.int .i64 1)).setCell ⟨gn, i * 9 + 5, none⟩ (.int .i64 (s (i : Int)).v)).setCell ⟨gn, i * 9 + 6, none⟩ (.int .i64 (s (i : Int)).v)).drew.heap.size) := ⟨k1.1, k1.2, by simp⟩
  clear k1 h0 g3 g4 g5 g6 f3 f5 f6
  generalize (((w.setCell ⟨gn, i * 9 + 3, none⟩ (.int .i64 1)).setCell ⟨gn, i * 9 + 5, none⟩ (.int .i64 (s (i : Int)).v)).setCell ⟨gn, i * 9 + 6, none⟩ (.int .i64 (s (i : Int)).v)).drew = w1 at *
  have e0 : (pull0 s (i : Int) (i : Int)).d0 = (s (i : Int)).d0 := by unfold pull0; rw [upd_same]
  have e1 : (pull0 s (i : Int) (i : Int)).d1 = (s (i : Int)).d1 := by unfold pull0; rw [upd_same]
  have h0 := K1.out.1.sl
  have g1 := K1.out.1.g1 hi
  have g2 := K1.out.1.g2 hi
  obtain ⟨q0, hq0⟩ : ∃ q0, (s (i : Int)).d0 = q0 := ⟨_, rfl⟩
  obtain ⟨q1, hq1⟩ : ∃ q1, (s (i : Int)).d1 = q1 := ⟨_, rfl⟩
  rw [e0, hq0] at g1
  rw [e1, hq1] at g2
  rw [hq0] at H0
  rw [hq1] at H1
  have HQ0 := Aside0.mk hq0
  have HQ1 := Aside0.mk hq1
  clear hq0 hq1 e0 e1
  go_wp2
  clear g1 g2 h0
  go_loopg [35] 3 (fun kq v35 wr => ∃ (j : Nat) (s1 : Fo), v35 = .int .i64 j ∧ Aside0 (j + kq = 3 ∧ 0 < kq) ∧ Aside0 (s1 = (if j = 0 then pull0 s (i : Int) else if j = 1 then pull1 (pull0 s (i : Int)) (i : Int) (s (i : Int)).d0 else pull s (i : Int))) ∧ Aside0 (Sp 57 60 own w0 wr gs gn N cap s1 ∧ Stay own own SpT w wr ∧ w.heap.size ≤ wr.heap.size))
  case atStart => exact ⟨0, _, rfl, ⟨by omega⟩, ⟨rfl⟩, K1⟩
  case round =>
    clear K1
    obtain ⟨j, s1, rfl, HK, HE, HP⟩ := hrel
    have hj : j = 0 ∨ j = 1 ∨ j = 2 := by have h_ := HK.out; omega
    have hix0 := ix0
    have hix1 := ix1
    rcases hj with rfl | rfl | rfl
    · have hc := H0.out
      have HE2 : Aside0 (s1 = pull0 s (i : Int)) := ⟨by have h_ := HE.out; simpa using h_⟩
      clear HE
      rcases hc with rfl | ⟨m, hm, rfl⟩
      · go_wp2
        obtain ⟨hk1, hk2⟩ := HK.out
        go_roundg (gk - 1)
        case measure => omega
        case rel => exact ⟨1, s1, rfl, ⟨by omega⟩, ⟨by have h_ := HE2.out; rw [h_]; show _ = pull1 _ _ _; rw [HQ0.out]; exact (if_pos rfl).symm⟩, HP⟩
      · as_aux_lemma =>
          have hx0 := HP.out.1.sl
          have g3 := HP.out.1.g3 hi
          have g5 := HP.out.1.g5 hi
          have g6 := HP.out.1.g6 hi
          have m3 := HP.out.1.g3 hm
          have m5 := HP.out.1.g5 hm
          have m6 := HP.out.1.g6 hm
          have f3 := HP.out.1.fz (i * 9 + 3)
          have f5 := HP.out.1.fz (i * 9 + 5)
          have f6 := HP.out.1.fz (i * 9 + 6)
          have m0 : (0 : Int) ≤ (m : Int) := Int.natCast_nonneg m
          have m1 : (m : Int) < (N : Int) := by omega
          have n2 : ((m : Int) != -1) = true := bne_iff_ne.mpr (by omega)
          have n3 : ¬ ((m : Int) = -1) := by omega
          obtain ⟨M1, hM1⟩ : ∃ M, (if (s1 (m : Int)).ls < (s1 (i : Int)).ls then (s1 (m : Int)).ls else (s1 (i : Int)).ls) = M := ⟨_, rfl⟩
          obtain ⟨M2, hM2⟩ : ∃ M, (if (s1 (i : Int)).ms < (s1 (m : Int)).ms then (s1 (m : Int)).ms else (s1 (i : Int)).ms) = M := ⟨_, rfl⟩
          have HM1 := Aside0.mk hM1
          have HM2 := Aside0.mk hM2
          clear hM1 hM2
          have KP := Sp.then_ ⟨HP.out.1, HP.out.2.1⟩ HP.out.2.2 (HP.out.1.pl hi (wrap64 ((s1 (i : Int)).size + (s1 (m : Int)).size)) M1 M2)
          have KP1 := Aside0.mk KP
          clear KP
          go_wp2
          try simp only [Act.put, List.setIfInBounds_toArray, List.set_cons_zero, List.set_cons_succ]
          go_region
          rw [HM1.out, HM2.out]
          clear g3 g5 g6 m3 m5 m6 f3 f5 f6 hx0
          go_wp2
          obtain ⟨hk1, hk2⟩ := HK.out
          go_roundg (gk - 1)
          case measure => omega
          case rel =>
            have hz := HP.out.2.2
            exact ⟨1, _, rfl, ⟨by omega⟩, ⟨by have h_ := HE2.out; rw [← h_]; show _ = pull1 _ _ _; rw [HQ0.out]; refine Eq.trans ?_ (if_neg n3).symm; rw [← HM1.out, ← HM2.out]; rfl⟩, ⟨KP1.out.1, KP1.out.2, by simpa using hz⟩⟩
    · have hc := H1.out
      have HE2 : Aside0 (s1 = pull1 (pull0 s (i : Int)) (i : Int) (s (i : Int)).d0) := ⟨by have h_ := HE.out; simpa using h_⟩
      clear HE
      rcases hc with rfl | ⟨m, hm, rfl⟩
      · go_wp2
        obtain ⟨hk1, hk2⟩ := HK.out
        go_roundg (gk - 1)
        case measure => omega
        case rel => exact ⟨2, s1, rfl, ⟨by omega⟩, ⟨by have h_ := HE2.out; rw [h_]; show _ = pull1 (pull1 _ _ _) _ _; rw [HQ1.out]; exact (if_pos rfl).symm⟩, HP⟩
      · as_aux_lemma =>
          have hx0 := HP.out.1.sl
          have g3 := HP.out.1.g3 hi
          have g5 := HP.out.1.g5 hi
          have g6 := HP.out.1.g6 hi
          have m3 := HP.out.1.g3 hm
          have m5 := HP.out.1.g5 hm
          have m6 := HP.out.1.g6 hm
          have f3 := HP.out.1.fz (i * 9 + 3)
          have f5 := HP.out.1.fz (i * 9 + 5)
          have f6 := HP.out.1.fz (i * 9 + 6)
          have m0 : (0 : Int) ≤ (m : Int) := Int.natCast_nonneg m
          have m1 : (m : Int) < (N : Int) := by omega
          have n2 : ((m : Int) != -1) = true := bne_iff_ne.mpr (by omega)
          have n3 : ¬ ((m : Int) = -1) := by omega
          obtain ⟨M1, hM1⟩ : ∃ M, (if (s1 (m : Int)).ls < (s1 (i : Int)).ls then (s1 (m : Int)).ls else (s1 (i : Int)).ls) = M := ⟨_, rfl⟩
          obtain ⟨M2, hM2⟩ : ∃ M, (if (s1 (i : Int)).ms < (s1 (m : Int)).ms then (s1 (m : Int)).ms else (s1 (i : Int)).ms) = M := ⟨_, rfl⟩
          have HM1 := Aside0.mk hM1
          have HM2 := Aside0.mk hM2
          clear hM1 hM2
          have KP := Sp.then_ ⟨HP.out.1, HP.out.2.1⟩ HP.out.2.2 (HP.out.1.pl hi (wrap64 ((s1 (i : Int)).size + (s1 (m : Int)).size)) M1 M2)
          have KP1 := Aside0.mk KP
          clear KP
          go_wp2
          try simp only [Act.put, List.setIfInBounds_toArray, List.set_cons_zero, List.set_cons_succ]
          go_region
          rw [HM1.out, HM2.out]
          clear g3 g5 g6 m3 m5 m6 f3 f5 f6 hx0
          go_wp2
          obtain ⟨hk1, hk2⟩ := HK.out
          go_roundg (gk - 1)
          case measure => omega
          case rel =>
            have hz := HP.out.2.2
            exact ⟨2, _, rfl, ⟨by omega⟩, ⟨by have h_ := HE2.out; rw [← h_]; show _ = pull1 (pull1 _ _ _) _ _; rw [← h_]; rw [HQ1.out]; refine Eq.trans ?_ (if_neg n3).symm; rw [← HM1.out, ← HM2.out]; rfl⟩, ⟨KP1.out.1, KP1.out.2, by simpa using hz⟩⟩
    · have HE2 : Aside0 (s1 = pull s (i : Int)) := ⟨by have h_ := HE.out; simpa using h_⟩
      go_wp2
      refine bodyPost_end (results_none rfl _ _ _) rfl ?_
      have h_ := HE2.out
      subst h_
      exact ⟨⟨_, rfl⟩, HP.out.1, HP.out.2.1, HP.out.2.2⟩
end Go.Proofs.YtcnmbgijehnchaaW.Splay
