/- The laws' own small functions: pick, same (contracts by hand). -/
import Derived.Test.YtcnmbgijehnchaaS19
set_option linter.unusedVariables false
set_option linter.unusedSimpArgs false
namespace Go.Proofs.YtcnmbgijehnchaaW.Splay
open Go.RowKit Go.Shelf Go.Proofs.YtcnmbgijehnchaaW.PrintWords Go.Proofs.YtcnmbgijehnchaaW.PrintLast Go.Proofs.YtcnmbgijehnchaaW.PrintMore Go.Proofs.YtcnmbgijehnchaaW.Mine
attribute [local go_sem] max2_int min2_int max_two min_two max_three min_three max_four min_four Oper.semAt_some
/-- Which of n things the raw number c speaks of. -/
def pk (c n : Int) : Int := if c < 0 then Int.tmod (-(c + 1)) n else Int.tmod c n
theorem pk_range {c n : Int} (hn : 0 < n) : 0 ≤ pk c n ∧ pk c n < n := by
  unfold pk
  split
  · exact ⟨Int.tmod_nonneg _ (by omega), Int.tmod_lt_of_pos _ hn⟩
  · exact ⟨Int.tmod_nonneg _ (by omega), Int.tmod_lt_of_pos _ hn⟩
theorem wf_bounds {c : Int} (h : (Lit.int .i64 c).wf = true) : -9223372036854775808 ≤ c ∧ c ≤ 9223372036854775807 := by
  simp [Lit.wf] at h
  obtain ⟨h1, h2⟩ := h
  have e : IntKind.i64.min = -9223372036854775808 := by decide
  rw [e] at h1
  exact ⟨h1, h2⟩
theorem pick_calls (w : World) {c n : Int} (h0 : -9223372036854775808 ≤ c) (h1 : c ≤ 9223372036854775807) (hn : 0 < n) :
    Calls Try.prog 13 #[.int .i64 c, .int .i64 n] w fun e w' => e = .returned (.int .i64 (pk c n)) ∧ w' = w := by
  have n0 : (n == 0) = false := by simp; omega
  unfold pk
  by_cases c3 : c < 0
  · have e1 : wrap64 (c + 1) = c + 1 := by unfold wrap64; omega
    have e2 : wrap64 (-(c + 1)) = -(c + 1) := by unfold wrap64; omega
    rw [if_pos c3]
    go_enter Try.func13, Try.ntmps13
    go_wp2
    go_ret
    exact ⟨congrArg (fun z => Ending.returned (.int .i64 z)) (show -((c + 1).tmod n) = _ from (Int.neg_tmod ..).symm), rfl⟩
  · rw [if_neg c3]
    have c4 : decide (c < 0) = false := decide_eq_false c3
    go_enter Try.func13, Try.ntmps13
    go_wp2
    go_ret
    exact ⟨congrArg (fun z => Ending.returned (.int .i64 z)) (show c % n = _ from (Int.tmod_eq_emod_of_nonneg (by omega)).symm), rfl⟩
theorem Rds.at {W : World} {A : Option Addr} {vs : List Int} (h : Rds W A vs) {j : Nat} (hj : j < vs.length) : ∃ a, A = some a ∧ W.cell? (a.add j) = some (.int .i64 vs[j]) := by
  rcases h with e | ⟨a, e, h⟩
  · subst e; simp at hj
  · exact ⟨a, e, (h j hj).1⟩
theorem Rds.below {W W1 : World} {A : Option Addr} {vs : List Int} (h : Rds W A vs) (hb : Below W.heap.size W W1) : Rds W1 A vs := by
  rcases h with e | ⟨a, e, h⟩
  · exact .inl e
  · refine .inr ⟨a, e, fun j hj => ⟨?_, Nat.lt_of_lt_of_le (h j hj).2 hb.size⟩⟩
    exact (hb.cell (p := a.add j) (by unfold Addr.add; split <;> exact (h j hj).2)).trans (h j hj).1
theorem Rds.kept {W W1 : World} {A : Option Addr} {vs : List Int} {gs gn : Nat} (h : Rds W A vs) (hk : Ke gs gn W W1) (hA : ∀ a, A = some a → a.block ≠ gs ∧ a.block ≠ gn) : Rds W1 A vs := by
  rcases h with e | ⟨a, e, h⟩
  · exact .inl e
  · refine .inr ⟨a, e, fun j hj => ⟨?_, Nat.lt_of_lt_of_le (h j hj).2 hk.size⟩⟩
    have h1 := hk.heap a.block (h j hj).2 (hA a e).1 (hA a e).2
    have h2 : (a.add j).block = a.block := by unfold Addr.add; split <;> rfl
    rw [← (h j hj).1]
    unfold World.cell?
    rw [h2, h1]
theorem Rds.own {W : World} {base e : Nat} {v : Value} {n : Nat} {xs : List Int} (h : W.ownsRow base e 1 v n (ints xs)) : ∃ A c, v = .slice A xs.length c ∧ xs.length ≤ c ∧ c ≤ maxLen ∧ Rds W A xs ∧ ∀ a, A = some a → base ≤ a.block ∧ a.off = 0 ∧ a.block < W.heap.size := by
  obtain ⟨hl, ⟨rfl, hn⟩ | ⟨g, cap, cur, rfl, hb, hh, h1, h2, h3, h4⟩⟩ := h
  · have hl2 : xs.length = n * 1 := by rw [← hl]; simp [ints]
    have : xs = [] := List.eq_nil_of_length_eq_zero (by omega)
    subst this
    exact ⟨none, 0, rfl, Nat.le_refl _, Nat.zero_le _, .inl rfl, fun a e => by cases e⟩
  · have hl2 : xs.length = n := by
      have : (ints xs).length = xs.length := by simp [ints]
      omega
    subst hl2
    refine ⟨_, cap, rfl, h1, h2, .inr ⟨_, rfl, fun j hj => ⟨?_, (Array.getElem?_eq_some_iff.1 hh).1⟩⟩, fun a e => by cases e; exact ⟨hb, rfl, (Array.getElem?_eq_some_iff.1 hh).1⟩⟩
    have e1 : (⟨g, 0, none⟩ : Addr).add j = ⟨g, j, none⟩ := by simp [Addr.add]; intro e; exact e.symm
    rw [e1]
    refine (blk_cell hh j).trans ?_
    have e2 : (ints xs)[j]? = some (.int .i64 xs[j]) := by simp [ints, hj]
    rw [← h4, List.getElem?_take] at e2
    split at e2
    · rwa [Array.getElem?_toList] at e2
    · cases e2
set_option maxHeartbeats 8000000 in
set_option maxRecDepth 100000 in
theorem same_calls {w : World} {A B : Option Addr} {xs ys : List Int} {c d : Nat} (ha : Rds w A xs) (hb : Rds w B ys) (hl : xs.length ≤ 1000000) (hl2 : ys.length ≤ 1000000) :
    Calls Try.prog 19 #[.slice A xs.length c, .slice B ys.length d] w fun e w' => e = .returned (.bool (decide (xs = ys))) ∧ Drawn0 w w' := by
  have HA := Aside0.mk ha
  have HB := Aside0.mk hb
  clear ha hb
  by_cases c3 : xs.length = ys.length
  · have c3b : ((xs.length : Int) != (ys.length : Int)) = false := bne_eq_false_iff_eq.mpr (by omega)
    go_enter Try.func19, Try.ntmps19
    go_wp2
    repeat (go_quiet (fail); try go_wp2)
    go_loopg [5] (xs.length + 1) (fun kq v5 wr => ∃ (j : Nat), v5 = .int .i64 (j : Int) ∧ Aside0 (j + kq = xs.length + 1 ∧ 0 < kq) ∧ Aside0 (xs.take j = ys.take j) ∧ Drawn0 w wr)
    case atStart => exact ⟨0, rfl, ⟨by omega⟩, ⟨by simp⟩, by repeat (first | exact Drawn0.refl _ | apply Drawn0.step)⟩
    case round =>
      obtain ⟨j, rfl, HK, HE, ⟨m1, rfl⟩⟩ := hrel
      by_cases c1 : j < xs.length
      · have hlt : (j : Int) < (xs.length : Int) := by omega
        have hlt2 : (j : Int) < (ys.length : Int) := by omega
        have c2 : j < ys.length := by omega
        have j0 : (0 : Int) ≤ (j : Int) := Int.natCast_nonneg j
        obtain ⟨a, rfl, hca⟩ := HA.out.at c1
        obtain ⟨b, rfl, hcb⟩ := HB.out.at c2
        obtain ⟨u, hu⟩ : ∃ u, xs[j] = u := ⟨_, rfl⟩
        obtain ⟨z, hz⟩ : ∃ z, ys[j] = z := ⟨_, rfl⟩
        rw [hu] at hca
        rw [hz] at hcb
        have HU := Aside0.mk hu
        have HZ := Aside0.mk hz
        clear hu hz
        by_cases c5 : u = z
        · have c5b : (u != z) = false := bne_eq_false_iff_eq.mpr c5
          go_wp2
          repeat (go_quiet (fail); try go_wp2)
          go_roundg (xs.length - j)
          case measure => have h_ := HK.out; omega
          case rel =>
            have h_ : wrap64 ((j : Int) + 1) = (j : Int) + 1 := by unfold wrap64; omega
            refine ⟨j + 1, by first | rw [h_]; rfl | rfl, ⟨by omega⟩, ⟨?_⟩, by repeat (first | exact Drawn0.refl _ | apply Drawn0.step)⟩
            rw [List.take_add_one, List.take_add_one, HE.out, List.getElem?_eq_getElem c1, List.getElem?_eq_getElem c2, HU.out, HZ.out, c5]
        · have c5b : (u != z) = true := bne_iff_ne.mpr c5
          have e_ : decide (xs = ys) = false := decide_eq_false (fun e => c5 (by
            have h1_ := HU.out
            have h2_ := HZ.out
            subst e
            exact h1_.symm.trans h2_))
          go_wp2
          repeat (go_quiet (fail); try go_wp2)
          go_ret
          exact ⟨by rw [e_]; rfl, by repeat (first | exact Drawn0.refl _ | apply Drawn0.step)⟩
      · have e1 : j = xs.length := by have h_ := HK.out; omega
        have hge : (xs.length : Int) ≤ (j : Int) := by omega
        have hge2 : decide ((j : Int) < (xs.length : Int)) = false := decide_eq_false (by omega)
        have e_ : decide (xs = ys) = true := decide_eq_true (by
          have h_ := HE.out
          rw [e1, List.take_length, c3, List.take_length] at h_
          exact h_)
        go_wp2
        repeat (go_quiet (fail); try go_wp2)
        go_ret
        exact ⟨by rw [e_]; rfl, by repeat (first | exact Drawn0.refl _ | apply Drawn0.step)⟩
  · have c3b : ((xs.length : Int) != (ys.length : Int)) = true := bne_iff_ne.mpr (by omega)
    have c3b2 : (xs.length == ys.length) = false := by simp [c3]
    have e_ : decide (xs = ys) = false := decide_eq_false (fun e => c3 (by rw [e]))
    rw [e_]
    go_enter Try.func19, Try.ntmps19
    go_wp2
    repeat (go_quiet (fail); try go_wp2)
    go_ret
    exact ⟨rfl, by repeat (first | exact Drawn0.refl _ | apply Drawn0.step)⟩
end Go.Proofs.YtcnmbgijehnchaaW.Splay
