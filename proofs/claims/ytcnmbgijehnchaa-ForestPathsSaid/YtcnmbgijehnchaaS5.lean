/- splay: what is laid on a node is laid on what is below it (contract by hand). -/
import Derived.Test.YtcnmbgijehnchaaS2
import Derived.StillTailTactics
set_option linter.unusedVariables false
set_option linter.unusedSimpArgs false
namespace Go.Proofs.YtcnmbgijehnchaaW.Splay
open Go.RowKit Go.Proofs.YtcnmbgijehnchaaW.PrintWords Go.Proofs.YtcnmbgijehnchaaW.PrintLast Go.Proofs.YtcnmbgijehnchaaW.PrintMore Go.Proofs.YtcnmbgijehnchaaW.Mine
attribute [local go_sem] max2_int min2_int max_two min_two max_three min_three max_four min_four
set_option maxHeartbeats 8000000 in
set_option maxRecDepth 100000 in
theorem push_calls {own : Nat → Nat} {w0 w : World} {gs gn N cap : Nat} {s : Fo} (h : Sp 57 60 own w0 w gs gn N cap s) (hN : N ≤ 3000) {i : Nat} (hi : i < N) (h0 : Ix N (s (i : Int)).d0) (h1 : Ix N (s (i : Int)).d1) :
    Calls Try.prog 46 #[.pointer (some ⟨gs, 0, none⟩), .int .i64 (i : Int)] w fun e w' => (∃ v, e = .returned v) ∧ Sp 57 60 own w0 w' gs gn N cap (push s (i : Int)) ∧ Stay own own SpT w w' ∧ w.heap.size ≤ w'.heap.size := by
  have HS := Aside0.mk h
  have hu58 := Try.underlying58
  obtain ⟨q0, hq0⟩ : ∃ q0, (s (i : Int)).d0 = q0 := ⟨_, rfl⟩
  obtain ⟨q1, hq1⟩ : ∃ q1, (s (i : Int)).d1 = q1 := ⟨_, rfl⟩
  rw [hq0] at h0
  rw [hq1] at h1
  have H0 := Aside0.mk h0
  have H1 := Aside0.mk h1
  have HQ0 := Aside0.mk hq0
  have HQ1 := Aside0.mk hq1
  clear h h0 h1
  obtain ⟨st, hst, fst⟩ := HS.out.steps
  have i0 : (0 : Int) ≤ (i : Int) := Int.natCast_nonneg i
  have i1 : (i : Int) < (N : Int) := by omega
  have K1 : Sp 57 60 own w0 (w.setCell ⟨gs, 1, none⟩ (.int .i64 (wrap64 (st + 1)))) gs gn N cap s ∧ Stay own own SpT w (w.setCell ⟨gs, 1, none⟩ (.int .i64 (wrap64 (st + 1)))) ∧ w.heap.size ≤ (w.setCell ⟨gs, 1, none⟩ (.int .i64 (wrap64 (st + 1)))).heap.size := ⟨(HS.out.st _).1, (HS.out.st _).2, by simp⟩
  have HP1 := Aside0.mk K1
  clear K1
  have hx0 := HP1.out.1.sl
  have g1 := HP1.out.1.g1 hi
  have g2 := HP1.out.1.g2 hi
  rw [hq0] at g1
  rw [hq1] at g2
  clear hq0 hq1
  go_enter Try.func46, Try.ntmps46
  go_wp2
  clear hst fst
  generalize (w.setCell ⟨gs, 1, none⟩ (.int .i64 (wrap64 (st + 1)))) = w1 at *
  clear g1 g2 hx0
  go_loopg [24] 3 (fun kq v24 wr => ∃ (j : Nat) (s1 : Fo), v24 = .int .i64 j ∧ Aside0 (j + kq = 3 ∧ 0 < kq) ∧ Aside0 (s1 = (if j = 0 then s else if j = 1 then lay s q0 (s (i : Int)).a (s (i : Int)).tn else push2 (lay s q0 (s (i : Int)).a (s (i : Int)).tn) (i : Int) q1)) ∧ Aside0 (Sp 57 60 own w0 wr gs gn N cap s1 ∧ Stay own own SpT w wr ∧ w.heap.size ≤ wr.heap.size))
  case atStart => exact ⟨0, _, rfl, ⟨by omega⟩, ⟨rfl⟩, HP1⟩
  case round =>
    clear HP1
    obtain ⟨j, s1, rfl, HK, HE, HP⟩ := hrel
    have hj : j = 0 ∨ j = 1 ∨ j = 2 := by have h_ := HK.out; omega
    have hix0 := ix0
    have hix1 := ix1
    rcases hj with rfl | rfl | rfl
    · have HE2 : Aside0 (s1 = s) := ⟨by have h_ := HE.out; simpa using h_⟩
      clear HE
      have g7 := HP.out.1.g7 hi
      have g8 := HP.out.1.g8 hi
      obtain ⟨av, hav⟩ : ∃ av, (s1 (i : Int)).a = av := ⟨_, rfl⟩
      obtain ⟨tv, htv⟩ : ∃ tv, (s1 (i : Int)).tn = tv := ⟨_, rfl⟩
      rw [hav] at g7
      rw [htv] at g8
      have HAV := Aside0.mk hav
      have HTV := Aside0.mk htv
      clear hav htv
      go_wp2
      go_still_tail 10, (by kernel_rfl)
      repeat still_step
      try refine wpStill_nil ?_
      change wpList _ _ _ _ _ wr.drew
      go_wp2_with (go_at_call 47; refine (lay_calls HP.out.1.drew hN H0.out av tv).mono ?_; rintro e w5 ⟨⟨v, rfl⟩, hS, hst, hsz⟩; have HP5 : Aside0 (Sp 57 60 own w0 w5 gs gn N cap (lay s1 q0 av tv) ∧ Stay own own SpT w w5 ∧ w.heap.size ≤ w5.heap.size) := ⟨hS, (stay_drew HP.out.2.1).trans HP.out.2.2 hst, Nat.le_trans HP.out.2.2 hsz⟩; clear hS hst hsz)
      obtain ⟨hk1, hk2⟩ := HK.out
      go_roundg (gk - 1)
      case measure => omega
      case rel => exact ⟨1, _, rfl, ⟨by omega⟩, ⟨by have h_ := HE2.out; have h1_ := HAV.out; have h2_ := HTV.out; subst h1_; subst h2_; subst h_; rfl⟩, HP5⟩
    · have HE2 : Aside0 (s1 = lay s q0 (s (i : Int)).a (s (i : Int)).tn) := ⟨by have h_ := HE.out; simpa using h_⟩
      clear HE
      have g7 := HP.out.1.g7 hi
      have g8 := HP.out.1.g8 hi
      obtain ⟨av, hav⟩ : ∃ av, (s1 (i : Int)).a = av := ⟨_, rfl⟩
      obtain ⟨tv, htv⟩ : ∃ tv, (s1 (i : Int)).tn = tv := ⟨_, rfl⟩
      rw [hav] at g7
      rw [htv] at g8
      have HAV := Aside0.mk hav
      have HTV := Aside0.mk htv
      clear hav htv
      go_wp2
      go_still_tail 10, (by kernel_rfl)
      repeat still_step
      try refine wpStill_nil ?_
      change wpList _ _ _ _ _ wr.drew
      go_wp2_with (go_at_call 47; refine (lay_calls HP.out.1.drew hN H1.out av tv).mono ?_; rintro e w5 ⟨⟨v, rfl⟩, hS, hst, hsz⟩; have HP5 : Aside0 (Sp 57 60 own w0 w5 gs gn N cap (lay s1 q1 av tv) ∧ Stay own own SpT w w5 ∧ w.heap.size ≤ w5.heap.size) := ⟨hS, (stay_drew HP.out.2.1).trans HP.out.2.2 hst, Nat.le_trans HP.out.2.2 hsz⟩; clear hS hst hsz)
      obtain ⟨hk1, hk2⟩ := HK.out
      go_roundg (gk - 1)
      case measure => omega
      case rel => exact ⟨2, _, rfl, ⟨by omega⟩, ⟨by have h_ := HE2.out; have h1_ := HAV.out; have h2_ := HTV.out; subst h1_; subst h2_; subst h_; rfl⟩, HP5⟩
    · have HE2 : Aside0 (s1 = push2 (lay s q0 (s (i : Int)).a (s (i : Int)).tn) (i : Int) q1) := ⟨by have h_ := HE.out; simpa using h_⟩
      have g7 := HP.out.1.g7 hi
      have g8 := HP.out.1.g8 hi
      have f7 := HP.out.1.fz (i * 9 + 7)
      have f8 := HP.out.1.fz (i * 9 + 8)
      have k1 := HP.out.1.p7 hi 0
      have k2 := Sp.then_ k1 (by simp) (k1.1.p8 hi false)
      simp only [upd_upd, upd_same] at k2
      have k3 := Sp.then_ ⟨HP.out.1, HP.out.2.1⟩ HP.out.2.2 k2
      have K3 := Aside0.mk k3
      clear k1 k2 k3
      go_wp2
      refine bodyPost_end (results_none rfl _ _ _) rfl ?_
      have hz := HP.out.2.2
      refine ⟨⟨_, rfl⟩, ?_, K3.out.2, by simpa using hz⟩
      have h_ := HE2.out
      have e_ : push s (i : Int) = push3 s1 (i : Int) := by
        unfold push
        rw [HQ0.out, HQ1.out, ← h_]
      rw [e_]
      exact K3.out.1
end Go.Proofs.YtcnmbgijehnchaaW.Splay
