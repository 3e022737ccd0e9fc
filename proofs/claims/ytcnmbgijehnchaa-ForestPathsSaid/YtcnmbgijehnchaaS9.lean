/- splay: there, end, and the calls that need one item (contracts by hand). -/
import Derived.Test.YtcnmbgijehnchaaS8
set_option linter.unusedVariables false
set_option linter.unusedSimpArgs false
namespace Go.Proofs.YtcnmbgijehnchaaW.Splay
open Go.RowKit Go.Proofs.YtcnmbgijehnchaaW.PrintWords Go.Proofs.YtcnmbgijehnchaaW.PrintLast Go.Proofs.YtcnmbgijehnchaaW.PrintMore Go.Proofs.YtcnmbgijehnchaaW.Mine
attribute [local go_sem] max2_int min2_int max_two min_two max_three min_three max_four min_four
theorem pathN_in {N : Nat} {s : Fo} (h : Good N s) : ∀ (k : Nat) (u : Int) (xs w : List Int), Ix N u → (∀ x ∈ xs, ∃ j : Nat, j < N ∧ x = (j : Int)) → pathN s k u xs = some w → ∀ x ∈ w, ∃ j : Nat, j < N ∧ x = (j : Int)
  | 0, u, xs, w, _, _, hw => by simp [pathN] at hw
  | k + 1, u, xs, w, hu, hx, hw => by
    rw [pathN] at hw
    rcases hu with rfl | ⟨j, hj, rfl⟩
    · rw [if_pos rfl] at hw
      obtain rfl := Option.some.inj hw
      exact hx
    · rw [if_neg (by omega)] at hw
      refine pathN_in h k _ _ w (h j hj).1 (fun x hx' => ?_) hw
      rcases List.mem_append.1 hx' with hx' | hx'
      · exact hx x hx'
      · exact ⟨j, hj, List.mem_singleton.1 hx'⟩
theorem Good.push_all {N : Nat} : ∀ (w : List Int) {s : Fo}, Good N s → (∀ x ∈ w, ∃ j : Nat, j < N ∧ x = (j : Int)) → Good N (w.foldl Go.Proofs.YtcnmbgijehnchaaW.Splay.push s)
  | [], s, h, _ => h
  | x :: w, s, h, hw => by
    obtain ⟨j, hj, rfl⟩ := hw x List.mem_cons_self
    exact Good.push_all w (h.push hj) (fun y hy => hw y (List.mem_cons_of_mem _ hy))
theorem Good.spin {N : Nat} {i : Nat} (hi : i < N) : ∀ (k : Nat) {s s' : Fo}, Good N s → Go.Proofs.YtcnmbgijehnchaaW.Splay.spin (i : Int) k s = some s' → Good N s'
  | 0, s, s', _, hs => by simp [Go.Proofs.YtcnmbgijehnchaaW.Splay.spin] at hs
  | k + 1, s, s', h, hs => by
    rw [Go.Proofs.YtcnmbgijehnchaaW.Splay.spin] at hs
    obtain ⟨u, hu⟩ : ∃ u, (s (i : Int)).up = u := ⟨_, rfl⟩
    have hI := (h i hi).1
    rw [hu] at hs hI
    rcases hI with rfl | ⟨j, hj, rfl⟩
    · rw [if_pos rfl] at hs
      obtain rfl := Option.some.inj hs
      exact h
    · rw [if_neg (by omega)] at hs
      obtain ⟨q, hq⟩ : ∃ q, (s (j : Int)).up = q := ⟨_, rfl⟩
      have hQ := (h j hj).1
      rw [hq] at hs hQ
      rcases hQ with rfl | ⟨m, hm, rfl⟩
      · rw [if_pos rfl] at hs
        exact Good.spin hi k (h.rotate hi hj hu) hs
      · rw [if_neg (by omega)] at hs
        have step : ∀ s2 : Fo, Good N s2 → (if (s2 (i : Int)).up = -1 then none else Go.Proofs.YtcnmbgijehnchaaW.Splay.spin (i : Int) k (Go.Proofs.YtcnmbgijehnchaaW.Splay.rotate s2 (i : Int))) = some s' → Good N s' := fun s2 h2 hs2 => by
          obtain ⟨z, hz⟩ : ∃ z, (s2 (i : Int)).up = z := ⟨_, rfl⟩
          have hZ := (h2 i hi).1
          rw [hz] at hs2 hZ
          rcases hZ with rfl | ⟨y, hy, rfl⟩
          · rw [if_pos rfl] at hs2
            cases hs2
          · rw [if_neg (by omega)] at hs2
            exact Good.spin hi k (h2.rotate hi hy hz) hs2
        by_cases c : Go.Proofs.YtcnmbgijehnchaaW.Splay.side s (i : Int) = Go.Proofs.YtcnmbgijehnchaaW.Splay.side s (j : Int)
        · rw [if_pos c] at hs
          exact step _ (h.rotate hj hm hq) hs
        · rw [if_neg c] at hs
          exact step _ (h.rotate hi hj hu) hs
theorem Good.splay {N : Nat} {k : Nat} {s s' : Fo} (h : Good N s) {i : Nat} (hi : i < N) (hs : splayN k s (i : Int) = some s') : Good N s' := by
  unfold splayN at hs
  obtain ⟨w, hw, hs2⟩ := Option.bind_eq_some_iff.1 hs
  by_cases c : w.length ≤ 1000000
  · rw [if_pos c] at hs2
    refine Good.spin hi k (Good.push_all _ h (fun x hx => ?_)) hs2
    exact pathN_in h k _ _ w (h i hi).1 (fun x hx => ⟨i, hi, List.mem_singleton.1 hx⟩) hw x (List.mem_reverse.1 hx)
  · rw [if_neg c] at hs2
    cases hs2
/-- A forest that stands in the world, and whose links are items. -/
structure St (w0 W : World) (gs gn N cap : Nat) (s : Fo) : Prop where
  sp : Sp 57 60 (og gs gn) w0 W gs gn N cap s
  good : Good N s
  small : N ≤ 3000
/-- What a call leaves behind. -/
structure Pt (w0 W : World) (gs gn N cap : Nat) (s : Fo) (W1 : World) : Prop where
  st : St w0 W1 gs gn N cap s
  ke : Ke gs gn W W1
section
variable {w0 W W1 W2 : World} {gs gn N cap : Nat} {s s1 : Fo}
theorem Pt.refl (h : St w0 W gs gn N cap s) : Pt w0 W gs gn N cap s W := ⟨h, Ke.refl _⟩
theorem Pt.trans (h : Pt w0 W gs gn N cap s W1) (k : Pt w0 W1 gs gn N cap s1 W2) : Pt w0 W gs gn N cap s1 W2 := ⟨k.1, h.2.trans k.2⟩
theorem Pt.of (h : St w0 W gs gn N cap s) (hs : Sp 57 60 (og gs gn) w0 W1 gs gn N cap s1 ∧ Stay (og gs gn) (og gs gn) SpT W W1) (hz : W.heap.size ≤ W1.heap.size) (hg : Good N s1) : Pt w0 W gs gn N cap s1 W1 := ⟨⟨hs.1, hg, h.small⟩, Ke.of hs.2 hz⟩
theorem St.below (h : St w0 W gs gn N cap s) (hb : Below W.heap.size W W1) : St w0 W1 gs gn N cap s := ⟨h.sp.move hb, h.good, h.small⟩
theorem Pt.below (h : Pt w0 W gs gn N cap s W1) (hb : Below W1.heap.size W1 W2) : Pt w0 W gs gn N cap s W2 := ⟨h.1.below hb, h.2.trans (Ke.below hb)⟩
theorem Pt.drew (h : Pt w0 W gs gn N cap s W1) : Pt w0 W gs gn N cap s W1.drew := h.below (below_drew (Below.refl _ _))
theorem Pt.drewN (h : Pt w0 W gs gn N cap s W1) (n : Nat) : Pt w0 W gs gn N cap s (W1.drewN n) := h.below (pw_below_drewN (Below.refl _ _) n)
end
set_option maxHeartbeats 4000000 in
theorem there_calls {w0 w : World} {gs gn N cap : Nat} {s : Fo} (h : St w0 w gs gn N cap s) (x : Int) :
    Calls Try.prog 41 #[.pointer (some ⟨gs, 0, none⟩), .int .i64 x] w fun e w' => e = .returned (.bool (decide (0 ≤ x ∧ x < (N : Int)))) ∧ w' = w := by
  have hx0 := h.sp.sl
  go_enter Try.func41, Try.ntmps41
  by_cases c : 0 ≤ x
  · by_cases c2 : x < (N : Int)
    · have e : decide (0 ≤ x ∧ x < (N : Int)) = true := by simp [c, c2]
      rw [e]
      go_wp2
      go_ret
      exact ⟨rfl, rfl⟩
    · have e : decide (0 ≤ x ∧ x < (N : Int)) = false := by simp [c2]
      have c3 : (N : Int) ≤ x := by omega
      rw [e]
      go_wp2
      go_ret
      exact ⟨rfl, rfl⟩
  · have e : decide (0 ≤ x ∧ x < (N : Int)) = false := by simp [c]
    have c3 : x < 0 := by omega
    rw [e]
    go_wp2
    go_ret
    exact ⟨rfl, rfl⟩
theorem there_in {w0 w : World} {gs gn N cap : Nat} {s : Fo} (h : St w0 w gs gn N cap s) {i : Nat} (hi : i < N) :
    Calls Try.prog 41 #[.pointer (some ⟨gs, 0, none⟩), .int .i64 (i : Int)] w fun e w' => e = .returned (.bool true) ∧ w' = w := by
  have e : decide (0 ≤ (i : Int) ∧ (i : Int) < (N : Int)) = true := by simp; omega
  have := there_calls h (i : Int)
  rw [e] at this
  exact this
theorem there_out {w0 w : World} {gs gn N cap : Nat} {s : Fo} (h : St w0 w gs gn N cap s) {x : Int} (hx : ¬ (0 ≤ x ∧ x < (N : Int))) :
    Calls Try.prog 41 #[.pointer (some ⟨gs, 0, none⟩), .int .i64 x] w fun e w' => e = .returned (.bool false) ∧ w' = w := by
  have e : decide (0 ≤ x ∧ x < (N : Int)) = false := by simpa using hx
  have := there_calls h x
  rw [e] at this
  exact this
/-- splay, by a forest that stands. -/
theorem splay_st (k : Nat) {w0 w W : World} {gs gn N cap : Nat} {s s' : Fo} (h : Pt w0 W gs gn N cap s w) {i : Nat} (hi : i < N) (hs : splayN k s (i : Int) = some s') :
    Calls Try.prog 42 #[.pointer (some ⟨gs, 0, none⟩), .int .i64 (i : Int)] w fun e w' => (∃ v, e = .returned v) ∧ Pt w0 W gs gn N cap s' w' :=
  (splay_calls k h.1.sp h.1.small h.1.good hi hs).mono fun e w' ⟨he, h1, h2, h3⟩ => ⟨he, ⟨h1, h3, h.1.small⟩, h.2.trans h2⟩
theorem push_st {w0 w W : World} {gs gn N cap : Nat} {s : Fo} (h : Pt w0 W gs gn N cap s w) {i : Nat} (hi : i < N) :
    Calls Try.prog 46 #[.pointer (some ⟨gs, 0, none⟩), .int .i64 (i : Int)] w fun e w' => (∃ v, e = .returned v) ∧ Pt w0 W gs gn N cap (push s (i : Int)) w' :=
  (push_calls h.1.sp h.1.small hi (h.1.good i hi).2.1 (h.1.good i hi).2.2).mono fun e w' ⟨he, h1, h2, h3⟩ => ⟨he, ⟨h1, h.1.good.push hi, h.1.small⟩, h.2.trans (Ke.of h2 h3)⟩
theorem lay_st {w0 w W : World} {gs gn N cap : Nat} {s : Fo} (h : Pt w0 W gs gn N cap s w) {x : Int} (hx : Ix N x) (d : Int) (t : Bool) :
    Calls Try.prog 47 #[.pointer (some ⟨gs, 0, none⟩), .int .i64 x, .int .i64 d, .bool t] w fun e w' => (∃ v, e = .returned v) ∧ Pt w0 W gs gn N cap (lay s x d t) w' :=
  (lay_calls h.1.sp h.1.small hx d t).mono fun e w' ⟨he, h1, h2, h3⟩ => ⟨he, ⟨h1, h.1.good.lay hx d t, h.1.small⟩, h.2.trans (Ke.of h2 h3)⟩
theorem pull_st {w0 w W : World} {gs gn N cap : Nat} {s : Fo} (h : Pt w0 W gs gn N cap s w) {i : Nat} (hi : i < N) :
    Calls Try.prog 45 #[.pointer (some ⟨gs, 0, none⟩), .int .i64 (i : Int)] w fun e w' => (∃ v, e = .returned v) ∧ Pt w0 W gs gn N cap (pull s (i : Int)) w' :=
  (pull_calls h.1.sp h.1.small hi (h.1.good i hi).2.1 (h.1.good i hi).2.2).mono fun e w' ⟨he, h1, h2, h3⟩ => ⟨he, ⟨h1, h.1.good.pull hi, h.1.small⟩, h.2.trans (Ke.of h2 h3)⟩
theorem hang_st {w0 w W : World} {gs gn N cap : Nat} {s : Fo} (h : Pt w0 W gs gn N cap s w) {x : Int} (hx : Ix N x) {j : Nat} (hj : j < N) {sd : Int} (hs : sd = 0 ∨ sd = 1) :
    Calls Try.prog 44 #[.pointer (some ⟨gs, 0, none⟩), .int .i64 x, .int .i64 (j : Int), .int .i64 sd] w fun e w' => (∃ v, e = .returned v) ∧ Pt w0 W gs gn N cap (hang s x (j : Int) sd) w' :=
  (hang_calls h.1.sp h.1.small hx hj hs).mono fun e w' ⟨he, h1, h2, h3⟩ => ⟨he, ⟨h1, h.1.good.hang hx hj sd, h.1.small⟩, h.2.trans (Ke.of h2 h3)⟩
set_option maxHeartbeats 8000000 in
set_option maxRecDepth 100000 in
theorem end_calls (k : Nat) {w0 w W : World} {gs gn N cap : Nat} {s s' : Fo} {y : Int} (h : Pt w0 W gs gn N cap s w) {i : Nat} (hi : i < N) {sd : Int} (hsd : sd = 0 ∨ sd = 1) (hs : endN k s (i : Int) sd = some (s', y)) :
    Calls Try.prog 43 #[.pointer (some ⟨gs, 0, none⟩), .int .i64 (i : Int), .int .i64 sd] w fun e w' => e = .returned (.int .i64 y) ∧ Pt w0 W gs gn N cap s' w' ∧ ∃ j : Nat, j < N ∧ y = (j : Int) := by
  unfold endN at hs
  obtain ⟨⟨s2, y2⟩, hl, hs2⟩ : ∃ p, endLoop sd k s (i : Int) = some p ∧ ((splayN k p.1 p.2).bind fun s' => some (s', p.2)) = some (s', y) := by
    cases hq : endLoop sd k s (i : Int) with
    | none => rw [hq] at hs; cases hs
    | some p => rw [hq] at hs; exact ⟨p, rfl, hs⟩
  obtain ⟨s3, hs3, hs4⟩ : ∃ s3, splayN k s2 y2 = some s3 ∧ some (s3, y2) = some (s', y) := by
    cases hq : splayN k s2 y2 with
    | none => simp [hq] at hs2
    | some p => simp [hq] at hs2; exact ⟨p, rfl, by simp [hs2]⟩
  obtain ⟨rfl, rfl⟩ := Prod.mk.inj (Option.some.inj hs4)
  have HP0 := Aside0.mk h
  have HL0 := Aside0.mk hl
  have HS3 := Aside0.mk hs3
  have hs0 : 0 ≤ sd := by omega
  have hs1 : sd < 2 := by omega
  clear h hl hs hs2 hs3 hs4
  go_enter Try.func43, Try.ntmps43
  go_wp2
  go_loopg [1] k (fun kq v1 wr => ∃ (j : Nat) (s1 : Fo), v1 = .int .i64 (j : Int) ∧ Aside0 (j < N) ∧ Aside0 (Pt w0 W gs gn N cap s1 wr) ∧ Aside0 (endLoop sd kq s1 (j : Int) = some (s2, y2)))
  case atStart => exact ⟨i, s, rfl, ⟨hi⟩, HP0, HL0⟩
  case round =>
    clear HP0 HL0
    obtain ⟨j, s1, rfl, HJ, HP1, HL1⟩ := hrel
    have hj := HJ.out
    have i0 : (0 : Int) ≤ (j : Int) := Int.natCast_nonneg j
    have i1 : (j : Int) < (N : Int) := by omega
    obtain ⟨f, hf⟩ : ∃ f, gk = f + 1 := by
      cases gk with
      | zero => have := HL1.out; simp [endLoop] at this
      | succ f => exact ⟨f, rfl⟩
    have hL := HL1.out
    rw [hf, endLoop] at hL
    have HF := Aside0.mk hf
    have hx0 := HP1.out.1.sp.sl
    have gd := HP1.out.1.sp.gd hj hsd
    obtain ⟨z, hz⟩ : ∃ z, dn (s1 (j : Int)) sd = z := ⟨_, rfl⟩
    have hI : Ix N z := by
      obtain ⟨_, b1, b2⟩ := HP1.out.1.good j hj
      rw [← hz]
      rcases hsd with e_ | e_ <;> rw [e_]
      · exact b1
      · exact b2
    rw [hz] at gd hL
    clear hz HL1 hf
    rcases hI with rfl | ⟨m, hm, rfl⟩
    · rw [if_pos rfl] at hL
      obtain ⟨rfl, rfl⟩ := Prod.mk.inj (Option.some.inj hL)
      have n0 : ((-1 : Int) != -1) = false := rfl
      clear hL
      go_wp2_with (go_at_call 42; refine (splay_st k HP1.out hj HS3.out).mono ?_; rintro e w5 ⟨⟨v, rfl⟩, hP⟩; have HP5 := Aside0.mk hP; clear hP)
      go_ret
      exact ⟨rfl, HP5.out, j, hj, rfl⟩
    · have n1 : ((m : Int) != -1) = true := bne_iff_ne.mpr (by omega)
      have n2 : ¬ ((m : Int) = -1) := by omega
      rw [if_neg n2] at hL
      have HL2 := Aside0.mk hL
      clear hL
      go_wp2_with (go_at_call 46; refine (push_st HP1.out hm).mono ?_; rintro e w5 ⟨⟨v, rfl⟩, hP⟩; have HP5 := Aside0.mk hP; clear hP)
      go_roundg f
      case measure => have h_ := HF.out; omega
      case rel => exact ⟨m, _, rfl, ⟨hm⟩, HP5, HL2⟩
end Go.Proofs.YtcnmbgijehnchaaW.Splay
