/- For the law PlainBlocks, for every input: printed by a program (wip/myprint), contracts by hand where it says MANUAL. -/
-- slim5
-- slim
import Derived.Test.YtdiaedecnfbgdaaPPlainBlocksx0
namespace Go.Proofs.Ytdiaedecnfbgdaa.PPlainBlocks
open Go.RowKit Go.Proofs.YtdiaedecnfbgdaaW.PrintWords Go.Proofs.YtdiaedecnfbgdaaW.PrintLast Go.Proofs.YtdiaedecnfbgdaaW.PrintMore
attribute [local go_sem] max2_int min2_int max_two min_two max_three min_three max_four min_four
set_option linter.unusedVariables false
set_option linter.unusedSimpArgs false
/-! ### slices_Clone_int64_int64: function 37 -/
-- MANUAL: this contract was written by hand.
def clone64.f (l0 : List Int) : Option (List Int) := if l0.length < 17592186044416 then some l0 else none
set_option maxHeartbeats 8000000 in
set_option maxRecDepth 100000 in
theorem clone64.calls (A0 : Option Addr) (c0 : Nat) (l0 : List Int) (r : List Int) (w : World) (hr0 : Kd.C (Kd.int .i64) w A0 l0.length l0) (hc0 : l0.length ≤ c0) (h : clone64.f l0 = some r) :
  Calls Try.prog 37 #[.slice A0 l0.length c0] w fun e w' => ∃ v0_ : Value, e = .returned (v0_) ∧ Kd.R (Kd.int .i64) 2 w' w.heap.size (fun _ => True) v0_ r ∧ Below w.heap.size w w' := by
 (have hnil := fun (W : World) (a : Option Addr) (n c : Nat) => Lib.run_eql_slice_nil (P := Try.prog) W 27 2 a n c 0 0 Try.underlying27); (unfold clone64.f at h); (by_cases hl : l0.length < 17592186044416)
 ·rw [if_pos hl] at h
  (obtain rfl := Option.some.inj h); clear h; (have HR := Aside0.mk hr0); clear hr0
  cases A0 with
  | none =>
   have hl0 : l0 = [] := by
    cases l0 with
    | nil => rfl
    | cons a t =>
     (obtain ⟨ad, e, _⟩ := Kd.at_int HR.out 0 (by omega) (by simp <;> omega));(cases e)
   subst hl0; (go_enter Try.func37, Try.ntmps37); (go_wp2); (go_ret)
   exact ⟨_, rfl, Kd.R_nil _ _ _ _ _, Below.refl _ _⟩
  | some a =>
   ((have HL := Aside0.mk hl);(clear hl)); (go_enter Try.func37, Try.ntmps37)
   go_wp2_with (first
    | ((with_reducible refine gate_dst (N := 5) rfl ?_); refine Kd.R_lit (Kd.int .i64) _ 2 ?hg (N := 5) ?hd (xs := ([] : List Int)) (inner := []) (ok := fun _ => True) (okp := fun _ => True) ?hr ?hp (fun _ hk => hk) trivial (Below.refl _ _) (Nat.le_refl _) (by simp) ?_; (case hd => rfl); (case hg => rfl); (case hr => first | (go_simp; done) | (go_simp; rfl)); (case hp => exact (Reps.none _ _)); intro v5 w5 ho5 hb5 hg5 hn5; have HO := Aside0.mk ho5; have HB := Aside0.mk hb5; clear ho5 hb5 hg5 hn5)
    | ((with_reducible refine gate_builtin (b := .append) (xs := #[.tmp 5, .tmp 6]) rfl ?_); at_builtin; refine Kd.R_append_rows (Kd.int .i64) (Rr := (Kd.int .i64).K w5) (w0 := w) w.heap.size rfl (.tmp 5) (.tmp 6) 27 2 (.int .i64 0) 8 rfl Try.underlying27 info2 rfl (by decide) (by omega) v5 [] l0 _ _ _ (fun _ => True) (fun _ => False) rfl rfl ?aO ?aR (fun x cs h => h) (fun _ h => h.elim) (fun _ _ => trivial) ?aB ?aS ?aL ?_; (case aR => exact Kd.C_below HR.out HB.out); (case aB => exact HB.out); (case aO => exact HO.out); (case aS => exact below_size HB.out); (case aL => have := HL.out; simp; omega); intro v7 w7 ho hb hg hat))
   (go_ret); (exact ⟨_, rfl, ho, hb⟩)
 (·(rw [if_neg hl] at h); (exact absurd h (by simp)))
end Go.Proofs.Ytdiaedecnfbgdaa.PPlainBlocks
