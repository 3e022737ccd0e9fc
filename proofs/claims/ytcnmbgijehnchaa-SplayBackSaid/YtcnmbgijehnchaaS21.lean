/- The chapter's example at the head of all laws of the splay rows: it is as the chapter says. -/
import Derived.Test.YtcnmbgijehnchaaS20
set_option linter.unusedVariables false
set_option linter.unusedSimpArgs false
namespace Go.Proofs.YtcnmbgijehnchaaW.Splay
open Go.RowKit Go.Shelf Go.Proofs.YtcnmbgijehnchaaW.PrintWords Go.Proofs.YtcnmbgijehnchaaW.PrintLast Go.Proofs.YtcnmbgijehnchaaW.PrintMore Go.Proofs.YtcnmbgijehnchaaW.Mine
attribute [local go_sem] max2_int min2_int max_two min_two max_three min_three max_four min_four Oper.semAt_some
theorem Rds.lit {W : World} {e : Nat} (xs : List Int) : Rds (W.alloc (.cells (ints xs).toArray e)) (some ⟨W.heap.size, 0, none⟩) xs := by
  refine .inr ⟨_, rfl, fun j hj => ⟨?_, by simp⟩⟩
  have e1 : (⟨W.heap.size, 0, none⟩ : Addr).add j = ⟨W.heap.size, j, none⟩ := by simp [Addr.add]; intro e; exact e.symm
  rw [e1]
  refine (blk_cell (World.alloc_heap_new W _) j).trans ?_
  simp [ints, hj]
set_option maxHeartbeats 8000000 in
set_option maxRecDepth 100000 in
theorem turned_calls {w0 w : World} {gs gn N cap : Nat} (h : Fm w0 w gs gn N cap [[(0, 5), (1, 6), (2, 7)]]) :
    Calls Try.prog 40 #[.pointer (some ⟨gs, 0, none⟩)] w fun e w' => e = .returned (.bool true) ∧ Below w0.heap.size w0 w' := by
  have HF := Aside0.mk h
  clear h
  go_enter Try.func40, Try.ntmps40
  go_wp2_with (first
    | (go_at_call 17; (with_reducible refine (HF.out.turn (W := [(0, 5), (1, 6), (2, 7)]) (Vs := []) (List.Perm.refl _) (by decide)).mono ?_); rintro e w1 ⟨⟨v, rfl⟩, hF, hK⟩; have HF1 := Aside0.mk hF; clear hF hK)
    | (go_at_call 20; (with_reducible refine (HF1.out.row (W := [(0, 5), (1, 6), (2, 7)].reverse) (List.mem_singleton.2 rfl) (by decide)).mono ?_); rintro e w2 ⟨u, rfl, ho, hF, hb⟩; have HF2 := Aside0.mk hF; obtain ⟨A2, c2, rfl, hc2, hm2, hr2, hof2⟩ := Rds.own ho; have HR2 := Aside0.mk hr2; clear hF hb ho hr2 hof2)
    | (go_at_call 19; (refine (same_calls (ys := [2, 1, 0]) (HR2.out.below (below_alloc (Below.refl _ _) _)) (Rds.lit [2, 1, 0]) (by decide) (by decide)).mono ?_); rintro e w3 ⟨rfl, hd⟩; have HB3 : Aside0 (Below w0.heap.size w0 w3) := ⟨((HF2.out.below (below_alloc (Below.refl _ _) _)).below hd.below).old⟩; clear hd))
  go_ret
  exact ⟨rfl, HB3.out⟩
set_option maxHeartbeats 8000000 in
set_option maxRecDepth 100000 in
theorem shown_calls (w : World) :
    Calls Try.prog 12 #[] w fun e w' => e = .returned (.bool true) ∧ Below w.heap.size w w' := by
  go_enter Try.func12, Try.ntmps12
  go_wp2_with (first
    | (go_at_call 14; (refine (Fm.new (w0 := w) (vs := [5, 6, 7]) (below_alloc (Below.refl _ _) _) (Rds.lit [5, 6, 7]) (by decide) (by decide) (by decide)).mono ?_); rintro e w1 ⟨rfl, hB, gn, cap, hF⟩; rw [World.size_alloc] at hF; have HF1 : Aside0 (Fm w w1 (w.heap.size + 1) gn 3 cap [[(0, 5)], [(1, 6)], [(2, 7)]]) := ⟨hF⟩; clear hF hB)
    | (go_at_call 15; (with_reducible refine (HF1.out.join (a := 0) (b := 1) (Wa := [(0, 5)]) (Wb := [(1, 6)]) (Vs := [[(2, 7)]]) (List.Perm.refl _) (by decide) (by decide)).mono ?_); rintro e w2 ⟨rfl, hF, hK⟩; have HF2 := Aside0.mk hF; clear hF hK HF1)
    | (go_at_call 15; (with_reducible refine (HF2.out.join (a := 0) (b := 2) (Wa := [(0, 5), (1, 6)]) (Wb := [(2, 7)]) (Vs := []) (List.Perm.refl _) (by decide) (by decide)).mono ?_); rintro e w3 ⟨rfl, hF, hK⟩; have HF3 := Aside0.mk hF; clear hF hK HF2)
    | (go_at_call 40; (with_reducible refine (turned_calls HF3.out).mono ?_); rintro e w4 ⟨rfl, hB⟩; have HB4 := Aside0.mk hB; clear hB))
  go_ret
  exact ⟨rfl, HB4.out⟩
end Go.Proofs.YtcnmbgijehnchaaW.Splay
