/- splay: a node turned above the one that is above it (contract by hand). -/
import Derived.Test.YtcnmbgijehnchaaS3
import Derived.Test.YtcnmbgijehnchaaS4
set_option linter.unusedVariables false
set_option linter.unusedSimpArgs false
namespace Go.Proofs.YtcnmbgijehnchaaW.Splay
open Go.RowKit Go.Proofs.YtcnmbgijehnchaaW.PrintWords Go.Proofs.YtcnmbgijehnchaaW.PrintLast Go.Proofs.YtcnmbgijehnchaaW.PrintMore Go.Proofs.YtcnmbgijehnchaaW.Mine
attribute [local go_sem] max2_int min2_int max_two min_two max_three min_three max_four min_four
/-- All links are items, or none. -/
def Good (N : Nat) (s : Fo) : Prop := ∀ i : Nat, i < N → Ix N (s (i : Int)).up ∧ Ix N (s (i : Int)).d0 ∧ Ix N (s (i : Int)).d1
theorem Ix.nat {N i : Nat} (h : i < N) : Ix N (i : Int) := .inr ⟨i, h, rfl⟩
theorem Good.upd {N : Nat} {s : Fo} (h : Good N s) {x : Int} {n : Nd} (h1 : Ix N n.up) (h2 : Ix N n.d0) (h3 : Ix N n.d1) : Good N (upd s x n) := fun i hi => by
  by_cases e : (i : Int) = x
  · rw [e, upd_same]
    exact ⟨h1, h2, h3⟩
  · rw [upd_ne e]
    exact h i hi
theorem Good.setDn {N : Nat} {s : Fo} (h : Good N s) {j : Nat} (hj : j < N) {sd x : Int} (hx : Ix N x) : Ix N (setDn (s (j : Int)) sd x).up ∧ Ix N (setDn (s (j : Int)) sd x).d0 ∧ Ix N (setDn (s (j : Int)) sd x).d1 := by
  obtain ⟨a, b, c⟩ := h j hj
  unfold Go.Proofs.YtcnmbgijehnchaaW.Splay.setDn
  split
  · exact ⟨a, hx, c⟩
  · exact ⟨a, b, hx⟩
theorem Good.hang {N : Nat} {s : Fo} (h : Good N s) {x : Int} (hx : Ix N x) {j : Nat} (hj : j < N) (sd : Int) : Good N (hang s x (j : Int) sd) := by
  obtain ⟨a, b, c⟩ := h.setDn hj (sd := sd) hx
  have h1 := h.upd (x := (j : Int)) a b c
  unfold Go.Proofs.YtcnmbgijehnchaaW.Splay.hang
  split
  · exact h1
  · rcases hx with rfl | ⟨m, hm, rfl⟩
    · exact absurd rfl ‹_›
    · obtain ⟨d, e, f⟩ := h1 m hm
      exact h1.upd (Ix.nat hj) e f
theorem Good.same {N : Nat} {s : Fo} (h : Good N s) {i : Nat} (hi : i < N) {n : Nd} (h1 : n.up = (s (i : Int)).up) (h2 : n.d0 = (s (i : Int)).d0) (h3 : n.d1 = (s (i : Int)).d1) : Good N (Go.Proofs.YtcnmbgijehnchaaW.Splay.upd s (i : Int) n) := by
  obtain ⟨a, b, c⟩ := h i hi
  exact h.upd (by rw [h1]; exact a) (by rw [h2]; exact b) (by rw [h3]; exact c)
theorem Good.pull1 {N : Nat} {s : Fo} (h : Good N s) {i : Nat} (hi : i < N) (c : Int) : Good N (pull1 s (i : Int) c) := by
  unfold Go.Proofs.YtcnmbgijehnchaaW.Splay.pull1
  split
  · exact h
  · exact h.same hi rfl rfl rfl
theorem Good.pull {N : Nat} {s : Fo} (h : Good N s) {i : Nat} (hi : i < N) : Good N (pull s (i : Int)) := by
  have h0 : Good N (pull0 s (i : Int)) := Good.same h hi rfl rfl rfl
  exact (h0.pull1 hi _).pull1 hi _
theorem Good.lay {N : Nat} {s : Fo} (h : Good N s) {x : Int} (hx : Ix N x) (a : Int) (t : Bool) : Good N (lay s x a t) := by
  unfold Go.Proofs.YtcnmbgijehnchaaW.Splay.lay
  split
  · exact h
  · rcases hx with rfl | ⟨m, hm, rfl⟩
    · exact absurd rfl ‹_›
    · obtain ⟨a', b', c'⟩ := h m hm
      cases t
      · exact h.upd a' b' c'
      · exact h.upd a' c' b'
theorem Good.push {N : Nat} {s : Fo} (h : Good N s) {i : Nat} (hi : i < N) : Good N (push s (i : Int)) := by
  obtain ⟨a, b, c⟩ := h i hi
  unfold Go.Proofs.YtcnmbgijehnchaaW.Splay.push push2 push3
  exact Good.same ((h.lay b _ _).lay c _ _) hi rfl rfl rfl
section
variable {tF tN : Nat} {own : Nat → Nat} {w0 W : World} {gs gn N cap : Nat} {s : Fo} {i : Nat}
theorem Sp.gd (h : Sp tF tN own w0 W gs gn N cap s) (hi : i < N) {sd : Int} (hs : sd = 0 ∨ sd = 1) : W.cell? ⟨gn, i * 9 + 1 + sd.toNat, none⟩ = some (.int .i64 (dn (s (i : Int)) sd)) := by
  rcases hs with rfl | rfl
  · exact h.g1 hi
  · exact h.g2 hi
theorem Sp.pd (h : Sp tF tN own w0 W gs gn N cap s) (hi : i < N) {sd : Int} (hs : sd = 0 ∨ sd = 1) (y : Int) : Sp tF tN own w0 (W.setCell ⟨gn, i * 9 + 1 + sd.toNat, none⟩ (.int .i64 y)) gs gn N cap (upd s (i : Int) (setDn (s (i : Int)) sd y)) ∧ Stay own own SpT W (W.setCell ⟨gn, i * 9 + 1 + sd.toNat, none⟩ (.int .i64 y)) := by
  rcases hs with rfl | rfl
  · exact h.p1 hi y
  · exact h.p2 hi y
theorem side_cases (s : Fo) (x : Int) : side s x = 0 ∨ side s x = 1 := by
  unfold side
  split
  · exact .inr rfl
  · exact .inl rfl
end
set_option maxHeartbeats 8000000 in
set_option maxRecDepth 100000 in
theorem side_quiet {own : Nat → Nat} {w0 w : World} {gs gn N cap : Nat} {s : Fo} (h : Sp 57 60 own w0 w gs gn N cap s) (hN : N ≤ 3000) {i j : Nat} (hi : i < N) (hj : j < N) (hu : (s (i : Int)).up = (j : Int)) :
    Calls Try.prog 54 #[.pointer (some ⟨gs, 0, none⟩), .int .i64 (i : Int)] w fun e w' => e = .returned (.int .i64 (side s (i : Int))) ∧ ∃ nd, w' = w.drewN nd := by
  have HS := Aside0.mk h
  have HU := Aside0.mk hu
  clear h
  have h0 := HS.out.sl
  have g0 := HS.out.g0 hi
  have g2 : w.cell? ⟨gn, j * 9 + 1 + 1, none⟩ = _ := HS.out.g2 hj
  rw [hu] at g0
  clear hu
  have i0 : (0 : Int) ≤ (i : Int) := Int.natCast_nonneg i
  have i1 : (i : Int) < (N : Int) := by omega
  have j0 : (0 : Int) ≤ (j : Int) := Int.natCast_nonneg j
  have j1 : (j : Int) < (N : Int) := by omega
  obtain ⟨q, hq⟩ : ∃ q, (s (j : Int)).d1 = q := ⟨_, rfl⟩
  rw [hq] at g2
  have HQ := Aside0.mk hq
  clear hq
  go_enter Try.func54, Try.ntmps54
  by_cases c : q = (i : Int)
  · subst c
    have es : side s (i : Int) = 1 := by
      unfold side
      rw [HU.out]
      exact if_pos HQ.out
    go_wp2
    try simp only [Act.put, List.setIfInBounds_toArray, List.set_cons_zero, List.set_cons_succ]
    try go_region
    try go_wp2
    refine bodyPost_ret (results_tmp rfl _ _ _) rfl ?_
    exact ⟨by rw [es]; rfl, 1, rfl⟩
  · have es : side s (i : Int) = 0 := by
      unfold side
      rw [HU.out]
      exact if_neg (by rw [HQ.out]; exact c)
    have c0 : (q == (i : Int)) = false := beq_eq_false_iff_ne.mpr c
    go_wp2
    try simp only [Act.put, List.setIfInBounds_toArray, List.set_cons_zero, List.set_cons_succ]
    try go_region
    try go_wp2
    refine bodyPost_ret (results_tmp rfl _ _ _) rfl ?_
    exact ⟨by rw [es]; rfl, 1, rfl⟩
set_option maxHeartbeats 8000000 in
set_option maxRecDepth 100000 in
theorem rotate_calls {own : Nat → Nat} {w0 w : World} {gs gn N cap : Nat} {s : Fo} (h : Sp 57 60 own w0 w gs gn N cap s) (hN : N ≤ 3000) (hgd : Good N s) {i j : Nat} (hi : i < N) (hj : j < N) (hu : (s (i : Int)).up = (j : Int)) :
    Calls Try.prog 55 #[.pointer (some ⟨gs, 0, none⟩), .int .i64 (i : Int)] w fun e w' => (∃ v, e = .returned v) ∧ Sp 57 60 own w0 w' gs gn N cap (rotate s (i : Int)) ∧ Stay own own SpT w w' ∧ w.heap.size ≤ w'.heap.size := by
  have HS := Aside0.mk h
  have HGD := Aside0.mk hgd
  have HU := Aside0.mk hu
  clear h hgd
  obtain ⟨st, hst, fst⟩ := HS.out.steps
  have i0 : (0 : Int) ≤ (i : Int) := Int.natCast_nonneg i
  have i1 : (i : Int) < (N : Int) := by omega
  have j0 : (0 : Int) ≤ (j : Int) := Int.natCast_nonneg j
  have j1 : (j : Int) < (N : Int) := by omega
  have HP1 : Aside0 (Sp 57 60 own w0 (w.setCell ⟨gs, 1, none⟩ (.int .i64 (wrap64 (st + 1)))) gs gn N cap s ∧ Stay own own SpT w (w.setCell ⟨gs, 1, none⟩ (.int .i64 (wrap64 (st + 1)))) ∧ w.heap.size ≤ (w.setCell ⟨gs, 1, none⟩ (.int .i64 (wrap64 (st + 1)))).heap.size) := ⟨(HS.out.st _).1, (HS.out.st _).2, by simp⟩
  have hx0 := HP1.out.1.sl
  have gi := HP1.out.1.g0 hi
  have gj := HP1.out.1.g0 hj
  rw [hu] at gi
  obtain ⟨gq, hgq⟩ : ∃ gq, (s (j : Int)).up = gq := ⟨_, rfl⟩
  rw [hgq] at gj
  have HGQ := Aside0.mk hgq
  obtain ⟨at_, hat_⟩ : ∃ at_, side s (i : Int) = at_ := ⟨_, rfl⟩
  have hat : at_ = 0 ∨ at_ = 1 := by rw [← hat_]; exact side_cases _ _
  have HAT := Aside0.mk hat_
  have hbt : 1 - at_ = 0 ∨ 1 - at_ = 1 := by omega
  have hb0 : 0 ≤ 1 - at_ := by omega
  have hb2 : 1 - at_ < 2 := by omega
  have ha0 : 0 ≤ at_ := by omega
  have ha2 : at_ < 2 := by omega
  clear hgq hat_ hu
  go_enter Try.func55, Try.ntmps55
  go_wp2
  go_quiet ((go_at_call 54; refine (side_quiet (HP1.out.1.drewN _) hN hi hj HU.out).mono ?_; rw [HAT.out]; rintro e w' ⟨rfl, ⟨nd, rfl⟩⟩; (try first | exact ⟨rfl, _, World.drewN_drewN _ _ _⟩ | exact ⟨rfl, _, Eq.trans (World.drewN_drewN _ _ _) (congrArg (World.drewN _) (Nat.add_assoc _ _ _))⟩)))
  have HP : Aside0 (Sp 57 60 own w0 ((w.setCell ⟨gs, 1, none⟩ (.int .i64 (wrap64 (st + 1)))).drewN nq) gs gn N cap s ∧ Stay own own SpT w ((w.setCell ⟨gs, 1, none⟩ (.int .i64 (wrap64 (st + 1)))).drewN nq) ∧ w.heap.size ≤ ((w.setCell ⟨gs, 1, none⟩ (.int .i64 (wrap64 (st + 1)))).drewN nq).heap.size) := ⟨HP1.out.1.drewN nq, stay_drewN HP1.out.2.1 nq, HP1.out.2.2⟩
  clear hst fst hx0 gi gj HP1
  generalize (w.setCell ⟨gs, 1, none⟩ (.int .i64 (wrap64 (st + 1)))).drewN nq = w2 at *
  have hig : Ix N gq := by
    have h_ := (HGD.out j hj).1
    rw [HGQ.out] at h_
    exact h_
  rcases hig with rfl | ⟨m, hm, rfl⟩
  ·
    as_aux_lemma =>
      have n0 : ((-1 : Int) != -1) = false := rfl
      obtain ⟨b, hb⟩ : ∃ b, dn (s (i : Int)) (1 - at_) = b := ⟨_, rfl⟩
      have HIB : Aside0 (Ix N b) := ⟨by
        obtain ⟨_, b1, b2⟩ := HGD.out i hi
        rw [← hb]
        rcases hbt with e_ | e_ <;> rw [e_]
        · exact b1
        · exact b2⟩
      have HB := Aside0.mk hb
      have hx0 := HP.out.1.sl; have gx := HP.out.1.gd hi hbt; rw [hb] at gx
      have G6 : Good N (hang (hang s b (j : Int) at_) (j : Int) (i : Int) (1 - at_)) := (HGD.out.hang HIB.out hj at_).hang (Ix.nat hj) hi (1 - at_)
      have G7 : Good N (upd (hang (hang s b (j : Int) at_) (j : Int) (i : Int) (1 - at_)) (i : Int) { (hang (hang s b (j : Int) at_) (j : Int) (i : Int) (1 - at_)) (i : Int) with up := (-1) }) := G6.upd (.inl rfl) (G6 i hi).2.1 (G6 i hi).2.2
      have G8 := G7
      have D0 := Aside0.mk (G8 j hj).2.1
      have D1 := Aside0.mk (G8 j hj).2.2
      have E0 := Aside0.mk ((G8.pull hj) i hi).2.1
      have E1 := Aside0.mk ((G8.pull hj) i hi).2.2
      clear hb G6 G7 G8
      go_wp2_with (first
        | (go_at_call 44; (with_reducible refine (hang_calls HP.out.1 hN HIB.out hj hat).mono ?_); rintro e w5 ⟨⟨v, rfl⟩, hS, hst, hsz⟩; have HP5 : Aside0 (Sp 57 60 own w0 w5 gs gn N cap (hang s b (j : Int) at_) ∧ Stay own own SpT w w5 ∧ w.heap.size ≤ w5.heap.size) := ⟨hS, HP.out.2.1.trans HP.out.2.2 hst, Nat.le_trans HP.out.2.2 hsz⟩; clear hS hst hsz; clear gx hx0 HP)
        | (go_at_call 44; (with_reducible refine (hang_calls HP5.out.1 hN (Ix.nat hj) hi hbt).mono ?_); rintro e w6 ⟨⟨v, rfl⟩, hS, hst, hsz⟩; have HP6 : Aside0 (Sp 57 60 own w0 w6 gs gn N cap (hang (hang s b (j : Int) at_) (j : Int) (i : Int) (1 - at_)) ∧ Stay own own SpT w w6 ∧ w.heap.size ≤ w6.heap.size) := ⟨hS, HP5.out.2.1.trans HP5.out.2.2 hst, Nat.le_trans HP5.out.2.2 hsz⟩; clear hS hst hsz; clear HP5; have r0 := HP6.out.1.sl; have r1 := HP6.out.1.g0 hi; have r2 := HP6.out.1.fz (i * 9); have K7 : Sp 57 60 own w0 (w6.setCell ⟨gn, i * 9, none⟩ (.int .i64 (-1))) gs gn N cap (upd (hang (hang s b (j : Int) at_) (j : Int) (i : Int) (1 - at_)) (i : Int) { (hang (hang s b (j : Int) at_) (j : Int) (i : Int) (1 - at_)) (i : Int) with up := (-1) }) ∧ Stay own own SpT w6 (w6.setCell ⟨gn, i * 9, none⟩ (.int .i64 (-1))) := HP6.out.1.p0 hi (-1); have K8 := K7; have HP8 : Aside0 (Sp 57 60 own w0 (w6.setCell ⟨gn, i * 9, none⟩ (.int .i64 (-1))) gs gn N cap (upd (hang (hang s b (j : Int) at_) (j : Int) (i : Int) (1 - at_)) (i : Int) { (hang (hang s b (j : Int) at_) (j : Int) (i : Int) (1 - at_)) (i : Int) with up := (-1) }) ∧ Stay own own SpT w (w6.setCell ⟨gn, i * 9, none⟩ (.int .i64 (-1))) ∧ w.heap.size ≤ (w6.setCell ⟨gn, i * 9, none⟩ (.int .i64 (-1))).heap.size) := ⟨K8.1, HP6.out.2.1.trans HP6.out.2.2 K8.2, by have h_ := HP6.out.2.2; simpa using h_⟩; clear K7 K8)
        | (go_at_call 45; (with_reducible refine (pull_calls HP8.out.1 hN hj D0.out D1.out).mono ?_); rintro e w9 ⟨⟨v, rfl⟩, hS, hst, hsz⟩; have HP9 : Aside0 (Sp 57 60 own w0 w9 gs gn N cap (pull (upd (hang (hang s b (j : Int) at_) (j : Int) (i : Int) (1 - at_)) (i : Int) { (hang (hang s b (j : Int) at_) (j : Int) (i : Int) (1 - at_)) (i : Int) with up := (-1) }) (j : Int)) ∧ Stay own own SpT w w9 ∧ w.heap.size ≤ w9.heap.size) := ⟨hS, HP8.out.2.1.trans HP8.out.2.2 hst, Nat.le_trans HP8.out.2.2 hsz⟩; clear hS hst hsz; clear HP8)
        | (go_at_call 45; (with_reducible refine (pull_calls HP9.out.1 hN hi E0.out E1.out).mono ?_); rintro e w10 ⟨⟨v, rfl⟩, hS, hst, hsz⟩; have HP10 : Aside0 (Sp 57 60 own w0 w10 gs gn N cap (pull (pull (upd (hang (hang s b (j : Int) at_) (j : Int) (i : Int) (1 - at_)) (i : Int) { (hang (hang s b (j : Int) at_) (j : Int) (i : Int) (1 - at_)) (i : Int) with up := (-1) }) (j : Int)) (i : Int)) ∧ Stay own own SpT w w10 ∧ w.heap.size ≤ w10.heap.size) := ⟨hS, HP9.out.2.1.trans HP9.out.2.2 hst, Nat.le_trans HP9.out.2.2 hsz⟩; clear hS hst hsz; clear HP9))

      refine bodyPost_end (results_none rfl _ _ _) rfl ?_
      refine ⟨⟨_, rfl⟩, ?_, HP10.out.2⟩
      have e_ : rotate s (i : Int) = pull (pull (upd (hang (hang s b (j : Int) at_) (j : Int) (i : Int) (1 - at_)) (i : Int) { (hang (hang s b (j : Int) at_) (j : Int) (i : Int) (1 - at_)) (i : Int) with up := (-1) }) (j : Int)) (i : Int) := by
        unfold rotate rot1 rot2
        rw [HU.out, HGQ.out, HAT.out, HB.out, if_pos rfl]
      rw [e_]
      exact HP10.out.1
  ·
    as_aux_lemma =>
      have m0 : (0 : Int) ≤ (m : Int) := Int.natCast_nonneg m; have m1 : (m : Int) < (N : Int) := (by omega); have n2 : ((m : Int) != -1) = true := bne_iff_ne.mpr (by omega); have n3 : ¬ ((m : Int) = -1) := (by omega)
      obtain ⟨b, hb⟩ : ∃ b, dn (s (i : Int)) (1 - at_) = b := ⟨_, rfl⟩
      have HIB : Aside0 (Ix N b) := ⟨by
        obtain ⟨_, b1, b2⟩ := HGD.out i hi
        rw [← hb]
        rcases hbt with e_ | e_ <;> rw [e_]
        · exact b1
        · exact b2⟩
      have HB := Aside0.mk hb
      obtain ⟨tp, htp_⟩ : ∃ tp, side s (j : Int) = tp := ⟨_, rfl⟩; have htp : tp = 0 ∨ tp = 1 := htp_ ▸ side_cases s (j : Int); have ht0 : 0 ≤ tp := (by omega); have ht2 : tp < 2 := (by omega); have HTP := Aside0.mk htp_; clear htp_; have HGM : Aside0 ((s (j : Int)).up = (m : Int)) := ⟨HGQ.out⟩; have HP0 := HP; clear HP
      have G6 : Good N (hang (hang s b (j : Int) at_) (j : Int) (i : Int) (1 - at_)) := (HGD.out.hang HIB.out hj at_).hang (Ix.nat hj) hi (1 - at_)
      have G7 : Good N (upd (hang (hang s b (j : Int) at_) (j : Int) (i : Int) (1 - at_)) (i : Int) { (hang (hang s b (j : Int) at_) (j : Int) (i : Int) (1 - at_)) (i : Int) with up := (m : Int) }) := G6.upd (Ix.nat hm) (G6 i hi).2.1 (G6 i hi).2.2
      have G8 : Good N (upd (upd (hang (hang s b (j : Int) at_) (j : Int) (i : Int) (1 - at_)) (i : Int) { (hang (hang s b (j : Int) at_) (j : Int) (i : Int) (1 - at_)) (i : Int) with up := (m : Int) }) (m : Int) (setDn ((upd (hang (hang s b (j : Int) at_) (j : Int) (i : Int) (1 - at_)) (i : Int) { (hang (hang s b (j : Int) at_) (j : Int) (i : Int) (1 - at_)) (i : Int) with up := (m : Int) }) (m : Int)) tp (i : Int))) := (fun h_ => G7.upd h_.1 h_.2.1 h_.2.2) (G7.setDn hm (sd := tp) (Ix.nat hi))
      have D0 := Aside0.mk (G8 j hj).2.1
      have D1 := Aside0.mk (G8 j hj).2.2
      have E0 := Aside0.mk ((G8.pull hj) i hi).2.1
      have E1 := Aside0.mk ((G8.pull hj) i hi).2.2
      clear hb G6 G7 G8
      go_wp2_with (first
        | (go_at_call 54; (with_reducible refine (side_calls HP0.out.1 hN hj hm HGM.out).mono ?_); rw [HTP.out]; rintro e w3 ⟨rfl, hS, hst, hsz⟩; have HP : Aside0 (Sp 57 60 own w0 w3 gs gn N cap s ∧ Stay own own SpT w w3 ∧ w.heap.size ≤ w3.heap.size) := ⟨hS, HP0.out.2.1.trans HP0.out.2.2 hst, Nat.le_trans HP0.out.2.2 hsz⟩; clear hS hst hsz HP0; have hx0 := HP.out.1.sl; have gx := HP.out.1.gd hi hbt; rw [HB.out] at gx)
        | (go_at_call 44; (with_reducible refine (hang_calls HP.out.1 hN HIB.out hj hat).mono ?_); rintro e w5 ⟨⟨v, rfl⟩, hS, hst, hsz⟩; have HP5 : Aside0 (Sp 57 60 own w0 w5 gs gn N cap (hang s b (j : Int) at_) ∧ Stay own own SpT w w5 ∧ w.heap.size ≤ w5.heap.size) := ⟨hS, HP.out.2.1.trans HP.out.2.2 hst, Nat.le_trans HP.out.2.2 hsz⟩; clear hS hst hsz; clear gx hx0 HP)
        | (go_at_call 44; (with_reducible refine (hang_calls HP5.out.1 hN (Ix.nat hj) hi hbt).mono ?_); rintro e w6 ⟨⟨v, rfl⟩, hS, hst, hsz⟩; have HP6 : Aside0 (Sp 57 60 own w0 w6 gs gn N cap (hang (hang s b (j : Int) at_) (j : Int) (i : Int) (1 - at_)) ∧ Stay own own SpT w w6 ∧ w.heap.size ≤ w6.heap.size) := ⟨hS, HP5.out.2.1.trans HP5.out.2.2 hst, Nat.le_trans HP5.out.2.2 hsz⟩; clear hS hst hsz; clear HP5; have r0 := HP6.out.1.sl; have r1 := HP6.out.1.g0 hi; have r2 := HP6.out.1.fz (i * 9); have K7 : Sp 57 60 own w0 (w6.setCell ⟨gn, i * 9, none⟩ (.int .i64 (m : Int))) gs gn N cap (upd (hang (hang s b (j : Int) at_) (j : Int) (i : Int) (1 - at_)) (i : Int) { (hang (hang s b (j : Int) at_) (j : Int) (i : Int) (1 - at_)) (i : Int) with up := (m : Int) }) ∧ Stay own own SpT w6 (w6.setCell ⟨gn, i * 9, none⟩ (.int .i64 (m : Int))) := HP6.out.1.p0 hi (m : Int); have K8 := Sp.then_ K7 (by simp) (K7.1.pd hm htp (i : Int)); have q0 := K7.1.sl; have q1 := K7.1.gd hm htp; have q2 := K7.1.fz (m * 9 + 1 + tp.toNat); have HP8 : Aside0 (Sp 57 60 own w0 ((w6.setCell ⟨gn, i * 9, none⟩ (.int .i64 (m : Int))).setCell ⟨gn, m * 9 + 1 + tp.toNat, none⟩ (.int .i64 (i : Int))) gs gn N cap (upd (upd (hang (hang s b (j : Int) at_) (j : Int) (i : Int) (1 - at_)) (i : Int) { (hang (hang s b (j : Int) at_) (j : Int) (i : Int) (1 - at_)) (i : Int) with up := (m : Int) }) (m : Int) (setDn ((upd (hang (hang s b (j : Int) at_) (j : Int) (i : Int) (1 - at_)) (i : Int) { (hang (hang s b (j : Int) at_) (j : Int) (i : Int) (1 - at_)) (i : Int) with up := (m : Int) }) (m : Int)) tp (i : Int))) ∧ Stay own own SpT w ((w6.setCell ⟨gn, i * 9, none⟩ (.int .i64 (m : Int))).setCell ⟨gn, m * 9 + 1 + tp.toNat, none⟩ (.int .i64 (i : Int))) ∧ w.heap.size ≤ ((w6.setCell ⟨gn, i * 9, none⟩ (.int .i64 (m : Int))).setCell ⟨gn, m * 9 + 1 + tp.toNat, none⟩ (.int .i64 (i : Int))).heap.size) := ⟨K8.1, HP6.out.2.1.trans HP6.out.2.2 K8.2, by have h_ := HP6.out.2.2; simpa using h_⟩; clear K7 K8)
        | (go_at_call 45; (with_reducible refine (pull_calls HP8.out.1 hN hj D0.out D1.out).mono ?_); rintro e w9 ⟨⟨v, rfl⟩, hS, hst, hsz⟩; have HP9 : Aside0 (Sp 57 60 own w0 w9 gs gn N cap (pull (upd (upd (hang (hang s b (j : Int) at_) (j : Int) (i : Int) (1 - at_)) (i : Int) { (hang (hang s b (j : Int) at_) (j : Int) (i : Int) (1 - at_)) (i : Int) with up := (m : Int) }) (m : Int) (setDn ((upd (hang (hang s b (j : Int) at_) (j : Int) (i : Int) (1 - at_)) (i : Int) { (hang (hang s b (j : Int) at_) (j : Int) (i : Int) (1 - at_)) (i : Int) with up := (m : Int) }) (m : Int)) tp (i : Int))) (j : Int)) ∧ Stay own own SpT w w9 ∧ w.heap.size ≤ w9.heap.size) := ⟨hS, HP8.out.2.1.trans HP8.out.2.2 hst, Nat.le_trans HP8.out.2.2 hsz⟩; clear hS hst hsz; clear HP8)
        | (go_at_call 45; (with_reducible refine (pull_calls HP9.out.1 hN hi E0.out E1.out).mono ?_); rintro e w10 ⟨⟨v, rfl⟩, hS, hst, hsz⟩; have HP10 : Aside0 (Sp 57 60 own w0 w10 gs gn N cap (pull (pull (upd (upd (hang (hang s b (j : Int) at_) (j : Int) (i : Int) (1 - at_)) (i : Int) { (hang (hang s b (j : Int) at_) (j : Int) (i : Int) (1 - at_)) (i : Int) with up := (m : Int) }) (m : Int) (setDn ((upd (hang (hang s b (j : Int) at_) (j : Int) (i : Int) (1 - at_)) (i : Int) { (hang (hang s b (j : Int) at_) (j : Int) (i : Int) (1 - at_)) (i : Int) with up := (m : Int) }) (m : Int)) tp (i : Int))) (j : Int)) (i : Int)) ∧ Stay own own SpT w w10 ∧ w.heap.size ≤ w10.heap.size) := ⟨hS, HP9.out.2.1.trans HP9.out.2.2 hst, Nat.le_trans HP9.out.2.2 hsz⟩; clear hS hst hsz; clear HP9))

      refine bodyPost_end (results_none rfl _ _ _) rfl ?_
      refine ⟨⟨_, rfl⟩, ?_, HP10.out.2⟩
      have e_ : rotate s (i : Int) = pull (pull (upd (upd (hang (hang s b (j : Int) at_) (j : Int) (i : Int) (1 - at_)) (i : Int) { (hang (hang s b (j : Int) at_) (j : Int) (i : Int) (1 - at_)) (i : Int) with up := (m : Int) }) (m : Int) (setDn ((upd (hang (hang s b (j : Int) at_) (j : Int) (i : Int) (1 - at_)) (i : Int) { (hang (hang s b (j : Int) at_) (j : Int) (i : Int) (1 - at_)) (i : Int) with up := (m : Int) }) (m : Int)) tp (i : Int))) (j : Int)) (i : Int) := by
        unfold rotate rot1 rot2
        rw [HU.out, HGQ.out, HAT.out, HB.out, if_neg n3, if_neg n3, HTP.out]
      rw [e_]
      exact HP10.out.1
end Go.Proofs.YtcnmbgijehnchaaW.Splay
