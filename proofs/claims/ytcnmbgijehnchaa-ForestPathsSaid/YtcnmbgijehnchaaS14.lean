/- splay: below; the maker of a tree's iterator (contracts by hand). -/
import Derived.Test.YtcnmbgijehnchaaS9
set_option linter.unusedVariables false
set_option linter.unusedSimpArgs false
namespace Go.Proofs.YtcnmbgijehnchaaW.Splay
open Go.RowKit Go.Proofs.YtcnmbgijehnchaaW.PrintWords Go.Proofs.YtcnmbgijehnchaaW.PrintLast Go.Proofs.YtcnmbgijehnchaaW.PrintMore Go.Proofs.YtcnmbgijehnchaaW.Mine
attribute [local go_sem] max2_int min2_int max_two min_two max_three min_three max_four min_four
set_option maxHeartbeats 8000000 in
set_option maxRecDepth 100000 in
theorem below_calls {w0 w : World} {gs gn N cap : Nat} {s : Fo} (h : Sp 57 60 (og gs gn) w0 w gs gn N cap s) (hN : N ≤ 3000) {i : Nat} (hi : i < N) {sd : Int} (hsd : sd = 0 ∨ sd = 1) (tn : Bool) :
    Calls Try.prog 57 #[.pointer (some ⟨gs, 0, none⟩), .int .i64 (i : Int), .int .i64 sd, .bool tn] w fun e w' => e = .returned (.tuple #[.int .i64 (belowN s (i : Int) sd tn).1, .bool (belowN s (i : Int) sd tn).2]) ∧ Below w.heap.size w w' := by
  have i0 : (0 : Int) ≤ (i : Int) := Int.natCast_nonneg i
  have i1 : (i : Int) < (N : Int) := by omega
  have hx5 := h.sl
  obtain ⟨up, hup⟩ : ∃ z, (s (i : Int)).up = z := ⟨_, rfl⟩
  obtain ⟨d0, hd0⟩ : ∃ z, (s (i : Int)).d0 = z := ⟨_, rfl⟩
  obtain ⟨d1, hd1⟩ : ∃ z, (s (i : Int)).d1 = z := ⟨_, rfl⟩
  obtain ⟨sz, hsz⟩ : ∃ z, (s (i : Int)).size = z := ⟨_, rfl⟩
  obtain ⟨v, hv⟩ : ∃ z, (s (i : Int)).v = z := ⟨_, rfl⟩
  obtain ⟨ls, hls⟩ : ∃ z, (s (i : Int)).ls = z := ⟨_, rfl⟩
  obtain ⟨ms, hms⟩ : ∃ z, (s (i : Int)).ms = z := ⟨_, rfl⟩
  obtain ⟨a, ha⟩ : ∃ z, (s (i : Int)).a = z := ⟨_, rfl⟩
  obtain ⟨tt, htt⟩ : ∃ z, (s (i : Int)).tn = z := ⟨_, rfl⟩
  have k0 := h.g0 hi
  have k1 := h.g1 hi
  have k2 := h.g2 hi
  have k3 := h.g3 hi
  have k4 := h.g4 hi
  have k5 := h.g5 hi
  have k6 := h.g6 hi
  have k7 := h.g7 hi
  have k8 := h.g8 hi
  rw [hup] at k0; rw [hd0] at k1; rw [hd1] at k2; rw [hsz] at k3; rw [hv] at k4; rw [hls] at k5; rw [hms] at k6; rw [ha] at k7; rw [htt] at k8
  have hu58 := Try.underlying58
  have hu60 := Try.underlying60
  have HE : Aside0 (belowN s (i : Int) sd tn = (if tn = true then (if sd = 0 then d1 else d0, !tt) else (if sd = 0 then d0 else d1, tt))) := ⟨by
    unfold belowN dn
    rw [hd0, hd1, htt]
    rcases hsd with rfl | rfl <;> rfl⟩
  have HB : Aside0 (Below w.heap.size w (w.alloc (.cells #[.int .i64 up, .int .i64 d0, .int .i64 d1, .int .i64 sz, .int .i64 v, .int .i64 ls, .int .i64 ms, .int .i64 a, .bool tt] 60)).drew) := ⟨below_drew (below_alloc (Below.refl _ _) _)⟩
  clear h hup hd0 hd1 hsz hv hls hms ha htt
  rcases hsd with rfl | rfl <;> cases tn
  all_goals
    go_enter Try.func57, Try.ntmps57
    go_wp2
    try simp only [Act.put, List.setIfInBounds_toArray, List.set_cons_zero, List.set_cons_succ]
    go_region
    try go_wp2
    refine bodyPost_ret (results_tmp2 rfl _ _ _) rfl ?_
    exact ⟨by rw [HE.out]; rfl, HB.out⟩
set_option maxHeartbeats 1000000 in
/-- The maker of a tree's iterator. -/
theorem all_calls (gs : Nat) (x : Int) (w : World) :
    Calls Try.prog 48 #[.pointer (some ⟨gs, 0, none⟩), .int .i64 x] w fun e w' => e = .returned (.func (.func 56) #[] #[.pointer (some ⟨w.heap.size + 1, 0, none⟩), .pointer (some ⟨w.heap.size, 0, none⟩)]) ∧ w' = (w.alloc (.cells #[.pointer (some ⟨gs, 0, none⟩)] 26)).alloc (.cells #[.int .i64 x] 3) := by
  go_enter Try.func48, Try.ntmps48
  go_wp2
  go_ret
  exact ⟨rfl, rfl⟩
end Go.Proofs.YtcnmbgijehnchaaW.Splay
