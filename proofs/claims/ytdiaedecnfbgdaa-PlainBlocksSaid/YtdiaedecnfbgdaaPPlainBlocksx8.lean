/- For the law PlainBlocks, for every input: printed by a program (wip/myprint), contracts by hand where it says MANUAL. -/
-- slim5
-- slim
import Derived.Test.YtdiaedecnfbgdaaPPlainBlocksx0
import Derived.Test.YtdiaedecnfbgdaaPPlainBlocksx3
import Derived.Test.YtdiaedecnfbgdaaPPlainBlocksx5
namespace Go.Proofs.Ytdiaedecnfbgdaa.PPlainBlocks
open Go.RowKit Go.Proofs.YtdiaedecnfbgdaaW.PrintWords Go.Proofs.YtdiaedecnfbgdaaW.PrintLast Go.Proofs.YtdiaedecnfbgdaaW.PrintMore
attribute [local go_sem] max2_int min2_int max_two min_two max_three min_three max_four min_four
set_option linter.unusedVariables false
set_option linter.unusedSimpArgs false
/-! ### residual_Room: function 29 -/
-- MANUAL: this contract was written by hand.
def roomOf : List S30 → List Int → List Int
 | a :: l, x :: f => wrap64 (a.f2 - x) :: x :: roomOf l f
 | _, _ => []
def residual_Room.f (k : Nat) (a0_0 : Int) (a0_1 : Int) (a0_2 : Int) (l0_3 : List (S30)) (l1 : List Int) : Option (List Int × Int) := (flow_Check.f k a0_0 a0_1 a0_2 l0_3 l1).bind fun t => (if t = 0 then (if l1.length ≤ l0_3.length ∧ l1.length ≤ 8796093022208 then some (roomOf l0_3 l1, 0) else none) else (some ([], t)))
theorem residual_Room.mono : ∀ a0 a1 a2 a3 a4 k, LeO (residual_Room.f k a0 a1 a2 a3 a4) (residual_Room.f (k + 1) a0 a1 a2 a3 a4) := by
 intro a0 a1 a2 a3 a4 k; (unfold residual_Room.f)
 repeat' first
   | (with_reducible exact flow_Check.mono _ _ _ _ _ _)
   | (with_reducible exact LeO.refl _)
   | (with_reducible exact LeO.none _)
   | (with_reducible refine LeO.ite ?_ ?_)
   | (with_reducible refine LeO.bind ?_ (fun _ => ?_))
set_option maxHeartbeats 8000000 in
set_option maxRecDepth 100000 in
theorem residual_Room.calls (k : Nat) (a0_0 : Int) (a0_1 : Int) (a0_2 : Int) (A0_3 : Option Addr) (c0_3 : Nat) (l0_3 : List (S30)) (A1 : Option Addr) (c1 : Nat) (l1 : List Int) (r1 : List Int) (r2 : Int) (w : World) (hr0_3 : Kd.C k30 w A0_3 l0_3.length l0_3) (hc0_3 : l0_3.length ≤ c0_3) (hr1 : Kd.C (Kd.int .i64) w A1 l1.length l1) (hc1 : l1.length ≤ c1) (h : residual_Room.f k a0_0 a0_1 a0_2 l0_3 l1 = some (r1, r2)) :
  Calls Try.prog 29 #[.agg #[.int .i64 a0_0, .int .i64 a0_1, .int .i64 a0_2, .slice A0_3 l0_3.length c0_3], .slice A1 l1.length c1] w fun e w' => ∃ v0_ : Value, e = .returned (.tuple #[v0_, .int .i64 r2]) ∧ Kd.R (Kd.int .i64) 2 w' w.heap.size (fun _ => True) v0_ r1 ∧ Below w.heap.size w w' := by
 (have hu26 := Try.underlying26); (have hu28 := Try.underlying30); (have HR := Aside0.mk hr0_3); (have HF := Aside0.mk hr1); (have HC1 := Aside0.mk hc1); clear hr0_3 hr1 hc1; (have HB0 := Aside0.mk (below_alloc (Below.refl w.heap.size w) (.cells #[.int .i64 a0_0, .int .i64 a0_1, .int .i64 a0_2, .slice A0_3 l0_3.length c0_3] 26))); (have BK0 := Aside0.mk (heap_new w (.cells #[.int .i64 a0_0, .int .i64 a0_1, .int .i64 a0_2, .slice A0_3 l0_3.length c0_3] 26))); (unfold residual_Room.f at h); (obtain ⟨t, ht, h⟩ := Option.bind_eq_some_iff.mp h); (have HT := Aside0.mk ht); clear ht; (by_cases h0 : t = 0)
 ·rw [if_pos h0] at h
  by_cases hl : l1.length ≤ l0_3.length ∧ l1.length ≤ 8796093022208
  ·rw [if_pos hl] at h
   (simp only [Option.some.injEq, Prod.mk.injEq] at h);(obtain ⟨hrr, rfl⟩ := h);(have H := Aside0.mk hrr);(clear hrr);(subst h0);(obtain ⟨hl1, hl2⟩ := hl);(obtain ⟨i0, hi, hz0, hz1, hz2⟩ := info_parts info2)
   have hmk : ∀ W : World, (Instr.makeSlice 27 (.int .i64 0) (.int .i64 (2 * (l1.length : Int)))).run Try.prog W = .ok (.slice (some ⟨W.heap.size, 0, none⟩) 0 (2 * l1.length)) (W.alloc (.cells (madeCells #[.int .i64 0] (2 * l1.length)) 2)) := fun W => by
    (have hr := run_make (P := Try.prog) W 27 2 i0 (.int .i64 0) Try.underlying27 hi hz0 .i64 .i64 0 (2 * (l1.length : Int)) (by omega) (by omega) (by rw [hz2]; omega) (by omega));(rw [hz1] at hr);(have e1 : (2 * (l1.length : Int)).toNat = 2 * l1.length := by omega);(rw [e1, Nat.mul_one] at hr);(exact hr)
   ((have HMK := Aside0.mk hmk);(clear hmk hi hz0 hz1 hz2);(have HL1 := Aside0.mk hl1);(have HL2 := Aside0.mk hl2)); (go_enter Try.func29, Try.ntmps29); (have hmk := HMK.out); (go_wp2_with (first | (go_at_call 34; refine (flow_Check.calls k a0_0 a0_1 a0_2 _ _ l0_3 _ _ l1 0 _ ?s1 hc0_3 ?s2 HC1.out HT.out).mono ?_; (case s1 => exact Kd.C_alloc HR.out _); (case s2 => exact Kd.C_alloc HF.out _); rintro e w1 ⟨rfl, hb⟩; have HB := Aside0.mk (below_step HB0.out hb); have BK := Aside0.mk (blk_below BK0.out hb); clear hb; have hcz0 := (blk_cell BK.out 0); have hcz1 := (blk_cell BK.out 1); have hcz2 := (blk_cell BK.out 2); have hcz3 := (blk_cell BK.out 3); simp only [List.getElem?_toArray, List.getElem?_cons_zero, List.getElem?_cons_succ] at hcz0 hcz1 hcz2 hcz3))); (go_loopg [7, 22] (l1.length + 1) (fun kq v7 v22 wr => ∃ (j : Nat) (out : List Int), v22 = .int .i64 j ∧ Aside0 (j + kq = l1.length + 1 ∧ 0 < kq) ∧ Aside0 (out ++ roomOf (l0_3.drop j) (l1.drop j) = r1) ∧ Aside0 (out.length = 2 * j) ∧ Aside0 (Kd.R (Kd.int .i64) 2 wr w.heap.size (fun _ => True) v7 out) ∧ Aside0 (wr.heap[w.heap.size]? = some (.cells #[.int .i64 a0_0, .int .i64 a0_1, .int .i64 a0_2, .slice A0_3 l0_3.length c0_3] 26 (0, 0))) ∧ Aside0 (Below w.heap.size w wr)))
   case atStart => exact ⟨0, [], rfl, ⟨by omega⟩, ⟨by rw [List.drop_zero, List.drop_zero]; exact H.out⟩, ⟨rfl⟩, ⟨⟨fun _ _ => trivial, [], World.ownsRow_made _ _ _ (below_size HB.out) (by unfold maxLen; omega) (by rw [size_madeCells]; exact (Nat.mul_one _).symm), Reps.none _ _⟩⟩, ⟨blk_alloc BK.out _⟩, ⟨below_alloc HB.out _⟩⟩
   case round =>
    ((clear HB BK HB0 BK0 hcz0 hcz1 hcz2 hcz3 hmk);(obtain ⟨j, out, rfl, HK, HA, HN, HO, BK, HB⟩ := hrel);(have hcz3 : wr.cell? ⟨w.heap.size, 3, none⟩ = some (.slice A0_3 l0_3.length c0_3) := (blk_cell BK.out 3).trans rfl)); (by_cases hlt : j < l1.length)
    ·(have hltl : j < l0_3.length := by omega);(obtain ⟨ad, ead, hx0, hx1, hx2⟩ := at_T30 HR.out (j : Int) (by omega) (by omega));(obtain ⟨fd, efd, hy0⟩ := Kd.at_int HF.out (j : Int) (by omega) (by omega));(cases ead);(cases efd)
     have hd : l0_3.drop j = rd_T30 l0_3 (j : Int) :: l0_3.drop (j + 1) := by
      rw [List.drop_eq_getElem_cons hltl]; simp [rd_T30, hltl]
     have hd1 : l1.drop j = rd l1 (j : Int) :: l1.drop (j + 1) := by
      rw [List.drop_eq_getElem_cons hlt]; simp [rd, hlt]
     (have hA := HA.out);(rw [hd, hd1, roomOf] at hA);(have HA2 := Aside0.mk hA);(clear hd hd1 HA hA);(generalize rd_T30 l0_3 (j : Int) = a at *);(generalize rd l1 (j : Int) = x at *);(replace hx2 := (HB.out.cell (World.block_lt_of_cell? w _ hx2)).trans hx2);(replace hy0 := (HB.out.cell (World.block_lt_of_cell? w _ hy0)).trans hy0);(rw [Int.toNat_natCast] at hx2 hy0);(clear hx0 hx1);(have hw := i64_w (a.f2 - x))
     go_wp2_with (first
      | ((with_reducible refine gate_dst (N := 37) rfl ?_); refine Kd.R_lit (Kd.int .i64) _ 2 ?hg (N := 37) ?hd (xs := ([wrap64 (a.f2 - x), x] : List Int)) (inner := [.int .i64 (wrap64 (a.f2 - x)), .int .i64 x]) (ok := fun _ => True) (okp := fun _ => True) ?hr ?hp (fun _ hk => hk) trivial (Below.refl _ _) (Nat.le_refl _) (by simp) ?_; (case hd => rfl); (case hg => rfl); (case hr => first | (go_simp; done) | (go_simp; rfl)); (case hp => exact (Reps.snoc (p := x) (c := [.int .i64 x]) (Reps.snoc (p := wrap64 (a.f2 - x)) (c := [.int .i64 (wrap64 (a.f2 - x))]) (Reps.none _ _) rfl rfl) rfl rfl)); intro v37 w37 ho37 hb37 hg37 hn37; obtain ⟨A37, c37, rfl⟩ := Kd.R_slice ho37; have HO37 := Aside0.mk ho37; have HOA := Aside0.mk (Kd.R_below HO.out hb37); have HB37 := Aside0.mk (below_step HB.out hb37); have BK37 := Aside0.mk (blk_below BK.out hb37); clear ho37 hb37 hg37 hn37)
      | ((with_reducible refine gate_builtin (b := .append) (xs := #[.tmp 27, .tmp 37]) rfl ?_); at_builtin; refine Kd.R_append_rows (Kd.int .i64) (Rr := (Kd.int .i64).K w37) (w0 := w) w.heap.size rfl (.tmp 27) (.tmp 37) 27 2 (.int .i64 0) 8 rfl Try.underlying27 info2 rfl (by decide) (by omega) u7 out [wrap64 (a.f2 - x), x] _ _ _ (fun _ => True) (fun _ => False) rfl rfl ?aO ?aR (fun x cs h => h) (fun _ h => h.elim) (fun _ _ => trivial) ?aB ?aS ?aL ?_; (case aR => exact (Kd.R_reads' HO37.out).2.2); (case aB => exact HB37.out); (case aO => exact HOA.out); (case aS => exact below_size HB37.out); (case aL => have h1 := HN.out; have h2 := HL2.out; simp; omega); intro v38 w38 ho hb hg hat; have HO2 := Aside0.mk ho; have HB2 := Aside0.mk hb; have BK2 := Aside0.mk (blk_grown BK37.out hg (Kd.R_ne HOA.out BK37.out (by decide))); clear ho hb hg hat))
     (obtain ⟨hk1, hk2⟩ := HK.out); (go_roundg (gk - 1))
     case measure => omega
     case rel => exact ⟨j + 1, out ++ [wrap64 (a.f2 - x), x], by first | rfl | go_num, ⟨by omega⟩, ⟨by rw [List.append_assoc]; exact HA2.out⟩, ⟨by have := HN.out; simp; omega⟩, HO2, BK2, HB2⟩
    (·((have hA := HA.out);(rw [List.drop_of_length_le (show l1.length ≤ j by omega)] at hA);(have e : roomOf (l0_3.drop j) [] = [] := by cases l0_3.drop j <;> rfl);(rw [e, List.append_nil] at hA);(subst hA)); (go_wp2); (go_ret2); (exact ⟨_, rfl, HO.out, HB.out⟩))
  ·rw [if_neg hl] at h; exact absurd h (by simp)
 (·(rw [if_neg h0] at h); (simp only [Option.some.injEq, Prod.mk.injEq] at h); (obtain ⟨rfl, rfl⟩ := h); (have h0b : (t == 0) = false := beq_eq_false_iff_ne.mpr h0); (have h0c : (t != 0) = true := bne_iff_ne.mpr h0); clear h0; (go_enter Try.func29, Try.ntmps29); (go_wp2_with (first | (go_at_call 34; refine (flow_Check.calls k a0_0 a0_1 a0_2 _ _ l0_3 _ _ l1 t _ ?s1 hc0_3 ?s2 HC1.out HT.out).mono ?_; (case s1 => exact Kd.C_alloc HR.out _); (case s2 => exact Kd.C_alloc HF.out _); rintro e w1 ⟨rfl, hb⟩; have HB := Aside0.mk (below_step HB0.out hb); have BK := Aside0.mk (blk_below BK0.out hb); clear hb; have hcz0 := (blk_cell BK.out 0); have hcz1 := (blk_cell BK.out 1); have hcz2 := (blk_cell BK.out 2); have hcz3 := (blk_cell BK.out 3); simp only [List.getElem?_toArray, List.getElem?_cons_zero, List.getElem?_cons_succ] at hcz0 hcz1 hcz2 hcz3))); (go_ret2); (exact ⟨_, rfl, Kd.R_nil _ _ _ _ _, HB.out⟩))
end Go.Proofs.Ytdiaedecnfbgdaa.PPlainBlocks
